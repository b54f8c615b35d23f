/- What the later texts need beside the merged ones. -/
import Derived.Test.YtbjinibmkkmhkaaDooru1
import Derived.Test.YtbjinibmkkmhkaaDoorr7
namespace Go.Proofs.YtbjinibmkkmhkaaDoor
open Go Go.RowKit
set_option maxRecDepth 20000
section
section
variable {P : Program} {o : Oper} {M M' : List AB} {ρ : Operand → AV} {out : AV} {tab : List (Nat × TE)}
/-- An element's place, in an own row. -/
theorem astep_idx_row (ht : TyTab P tab) {T e : Nat} {ee : TE} {x y : Operand} {i ver e' : Nat} {es : List D} {q : IntKind} {n : Int} (ho : o.op = .indexAddr T x y) (hT : elemOf_ tab T = some (e, ee)) (hx : ρ x = .row i ver) (hM : M[i]? = some (.row ver e' ee.size es)) (hy : ρ y = .val (.int q n))
    (h0 : 0 ≤ n) (hd : n.toNat < es.length) : AStep P o M ρ M (.eptr i ver n.toNat 0) :=
  .value fun S B β a w hm hs => by
    have h1 := hs x (by simp [ho, Op.operands])
    have h2 := hs y (by simp [ho, Op.operands])
    rw [hx] at h1; rw [hy] at h2
    have h2 : a.eval y = .int q n := h2
    obtain ⟨h3, h4⟩ := row_val hm hM h1
    obtain ⟨hu, he⟩ := elemOf_spec ht hT
    cases hb : β i with
    | none => rw [h4 hb] at hd; simp at hd
    | some gc =>
      obtain ⟨g, c⟩ := gc
      rw [hb] at h3
      have hcond : 0 ≤ n ∧ n < (es.length : Int) := by omega
      refine ⟨.pointer (some ⟨g, n.toNat * ee.size, none⟩), ?_, .row ver e' ee.size es, hM, Nat.le_refl _, fun _ => ⟨g, c, hb, by simp⟩⟩
      simp [execOp, ho, h2, h3, rowVal, Instr.indexAt, asIntOf, run_underlying hu, hcond, run_sizeOf he, addr_add]
/-- A read of an own row's element. -/
theorem astep_load_e (ht : TyTab P tab) {T : Nat} {te : TE} {x : Operand} {i ver j off e k : Nat} {es : List D} {d : D} (ho : o.op = .load T x) (hT : tget tab T = some te) (hx : ρ x = .eptr i ver j off) (hM : M[i]? = some (.row ver e k es))
    (hd : es[j]? = some d) (hl : loadAV te (d.cells.drop off) = some out) : AStep P o M ρ M out :=
  .value fun S B β a w hm hs => by
    have h1 := hs x (by simp [ho, Op.operands])
    rw [hx] at h1
    obtain ⟨ab, h2, h3⟩ := h1
    rw [hM] at h2; cases h2
    obtain ⟨g, c, h4, h5⟩ := h3.2 rfl
    obtain ⟨hw, h6 | ⟨g', c', cs, h6, h7, h8, h9, h10, h11⟩⟩ := hm.ent i _ hM
    · rw [h4] at h6; cases h6.1
    · rw [h4] at h6; cases h6
      have h12 := (h11.at_ hw hd).cells_ (M := M) (β := β)
      obtain ⟨v, h13, h14⟩ := run_loadVar (P := P) (ht.get hT) (g := g) (off := j * k + off) (h12.drop_ off) (fun q u hq => by
        rw [List.getElem?_drop, List.getElem?_take] at hq
        split at hq
        · rw [List.getElem?_drop, List.getElem?_take] at hq
          split at hq
          · rw [Nat.add_assoc]
            rw [h7.cell]
            simpa using hq
          · cases hq
        · cases hq) hl
      exact ⟨v, by simp [execOp, ho, h5, Instr.loadAt, Instr.sureAddr, h13], h14⟩
end
end
section
section
variable {P : Program} {ops : Array Oper} {N : Nat} {K : AS → Prop} {o : Oper} {r : List Oper} {fo fo' : Option (List Nat)} {M M' : List AB} {F : List (Nat × AV)} {dt : Tmp} {tab : List (Nat × TE)} {out : AV} {c : Prop}
theorem r_off {j : Nat} {want : Bool} {g : Tmp} (hg : o.guard = some (j, want)) (hj : dstOf ops j = some g) (hF : look F g = .val (.bool (!want))) (hdd : o.dst = some dt) (hd : dstB o.dst N = true)
    (hp : popF fo 0 = some fo') (k : RunX P ops N K r fo' (M) ((dt, (.val undef)) :: F)) : RunX P ops N K (o :: r) fo M F :=
  RunX.mk (fun _ k => Run.pure_ hd (fun _ => StepG.off hg hj hF) (by rw [put_eq hdd]; exact k)) hp k
theorem r_pick_f {q x y : Operand} (hg : o.guard = none) (ho : o.op = .pick q x y) (hq : aval (look F) q = .val (.bool false)) (hx : nf (aval (look F) y) = some out)
    (hdd : o.dst = some dt) (hd : dstB o.dst N = true) (hp : popF fo 0 = some fo') (k : RunX P ops N K r fo' (M) ((dt, out) :: F)) : RunX P ops N K (o :: r) fo M F :=
  RunX.mk (fun _ k => Run.pure_ hd (fun _ => StepG.plain hg (astep_pick ho hq (fun h => by cases h) (fun _ => by rw [nf_eq hx]; exact Sub.refl _))) (by rw [put_eq hdd]; exact k)) hp k

theorem r_len_on (ht : TyTab P tab) {α : Type} {f : α → D} {l : List α} {T e n : Nat} {ee : TE} {x : Operand} {j : Nat} {want : Bool} {g : Tmp} (hg : o.guard = some (j, want)) (hj : dstOf ops j = some g) (hF : look F g = .val (.bool want)) (ho : o.op = .call { callee := .builtin .len, args := #[x], argTypes := #[T] }) (hT : elemOf_ tab T = some (e, ee)) (hx : aval (look F) x = .sl n (l.map f))
    (hdd : o.dst = some dt) (hd : dstB o.dst N = true) (hp : popF fo 0 = some fo') (k : RunX P ops N K r fo' M ((dt, .val (.int .i64 l.length)) :: F)) : RunX P ops N K (o :: r) fo M F :=
  RunX.mk (fun _ k => Run.pure_ hd (fun _ => StepG.on hg hj hF (astep_len_map ht ho hT hx)) (by rw [put_eq hdd]; exact k)) hp k
end
end
section
section
variable {P : Program} {ops : Array Oper} {N : Nat} {K : AS → Prop} {o : Oper} {r : List Oper} {fo fo' : Option (List Nat)} {M M' : List AB} {F : List (Nat × AV)} {dt : Tmp} {tab : List (Nat × TE)} {out : AV}
/-- Elements of own rows. -/
theorem r_idxr (ht : TyTab P tab) {T e i ver e' : Nat} {ee : TE} {es : List D} {x y : Operand} {q : IntKind} {n : Int} (hg : o.guard = none) (ho : o.op = .indexAddr T x y) (hT : elemOf_ tab T = some (e, ee)) (hx : aval (look F) x = .row i ver) (hM : M[i]? = some (.row ver e' ee.size es))
    (hy : aval (look F) y = .val (.int q n)) (hdd : o.dst = some dt) (hd : dstB o.dst N = true) (hn : 0 ≤ n ∧ n.toNat < es.length) (hp : popF fo 1 = some fo') (k : RunX P ops N K r fo' M ((dt, .eptr i ver n.toNat 0) :: F)) : RunX P ops N K (o :: r) fo M F :=
  RunX.mk (fun _ k => Run.quiet hd (StepG.plain hg (astep_idx_row ht ho hT hx hM hy hn.1 hn.2)) (by rw [put_eq hdd]; exact k)) hp k
theorem r_lde (ht : TyTab P tab) {α : Type} {f : α → D} {l : List α} {T i ver j off e k' : Nat} {te : TE} {x : Operand} (hg : o.guard = none) (ho : o.op = .load T x) (hT : tget tab T = some te) (hx : aval (look F) x = .eptr i ver j off) (hM : M[i]? = some (.row ver e k' (l.map f))) (hj : j < l.length)
    (hl : ldAV te ((f (l[j]'hj)).cells.drop off) = some out) (hdd : o.dst = some dt) (hd : dstB o.dst N = true) (hp : popF fo 1 = some fo') (k : RunX P ops N K r fo' M ((dt, out) :: F)) : RunX P ops N K (o :: r) fo M F :=
  RunX.mk (fun _ k => Run.quiet hd (StepG.plain hg (astep_load_e ht ho hT hx hM (map_get hj) (ldAV_eq hl))) (by rw [put_eq hdd]; exact k)) hp k
end
end
section
section
variable {P : Program} {o : Oper} {M : List AB} {ρ : Operand → AV}
theorem goes_f {f : FuncId} {xs : Array Operand} {ts : Array TypeId} (hcall : Callable P f) (ho : o.op = .call { callee := .value (.func f), args := xs, argTypes := ts }) : Goes P o ρ f (xs.toList.map ρ) :=
  fun M β imm a w hs => ⟨xs.map a.eval, run_call hcall ho a w, by
    have := map_sat (l := xs.toList) fun x hx => hs x (mem_call ho hx)
    simpa using this⟩
theorem astep_mcallx {f : FuncId} {az : List AV} {M0 M1 : List AB} {cargs : List AV} {res : AV} (σ : List Nat) (hg : Goes P o ρ f az) (hc : MCalls P f M0 cargs M1 res)
    {M' : List AB} (τ : List Nat) (hemb : EmbM M (nth τ) σ M0) (hτ : τ.take σ.length = σ) (hnd : τ.Nodup) (hτl : τ.length = M1.length) (hnew : (τ.drop σ.length).all (fun i => Nat.ble M.length i) = true)
    (hMin : ∀ j, j < τ.length → M'[nth τ j]? = (M1[j]?).map (AB.ren (nth τ))) (hMout : ∀ i, i ∉ τ → M'[i]? = M[i]?) (hargs : Subs az (AV.rens (nth τ) cargs)) (hn : M0.length ≤ M1.length)
    (hu : (AV.unders σ.length cargs && M0.all (AB.under σ.length)) = true) : AStep P o M ρ M' (res.ren (nth τ)) := by
  intro S B β a w hm hs K Q hK
  rw [Bool.and_eq_true] at hu
  obtain ⟨hu1, hu2⟩ := hu
  have hlen := hemb.len
  have hσ : ∀ j i, σ[j]? = some i → nth τ j = i := fun j i h => nth_of (by
    have hj : j < σ.length := (List.getElem?_eq_some_iff.1 h).1
    rw [← hτ, List.getElem?_take, if_pos hj] at h
    exact h)
  obtain ⟨vs, hrun, h1⟩ := hg M β _ a w hs
  unfold Oper.wp
  rw [hrun]
  have h2 := hargs.sat h1
  -- the callee's frame
  have hM : ∀ j ab, M0[j]? = some ab → M[nth τ j]? = some (ab.ren (nth τ)) ∧ β (nth τ j) = (fun j => β (nth τ j)) j := fun j ab hj => by
    obtain ⟨i, k1, k2⟩ := hemb.at_ hj
    refine ⟨?_, rfl⟩
    rw [hσ j i k1]
    exact k2
  have hinj : ∀ j k, j < τ.length → k < τ.length → nth τ j = nth τ k → j = k := fun j k hj hk e => by
    have e1 := nth_of (List.getElem?_eq_getElem hj)
    have e2 := nth_of (List.getElem?_eq_getElem hk)
    rw [e1, e2] at e
    exact (List.getElem_inj hnd).1 e
  have hmem : ∀ i, i ∈ τ → ∃ j, j < τ.length ∧ nth τ j = i := fun i hi => by
    obtain ⟨j, hj, e⟩ := List.getElem_of_mem hi
    exact ⟨j, hj, nth_of (by rw [List.getElem?_eq_getElem hj, e])⟩
  have hin : ∀ j, j < τ.length → nth τ j ∈ τ ∧ τ[j]? = some (nth τ j) := fun j hj => by
    have e := nth_of (List.getElem?_eq_getElem hj)
    rw [e]
    exact ⟨List.getElem_mem hj, List.getElem?_eq_getElem hj⟩
  have hle : σ.length ≤ τ.length := by rw [hlen, hτl]; exact hn
  let β0 : Env := fun j => β (nth τ j)
  have hlive0 : ∀ b, live M0 β0 b → live M β b := fun b ⟨j, ab, c, k1, k2, k3⟩ => ⟨nth τ j, ab.ren (nth τ), c, (hM j ab k1).1, by rw [AB.ren_alive]; exact k2, k3⟩
  let S' : Nat → Prop := fun b => immOf S B M β w b ∨ live M0 β0 b
  have hi0 : ∀ b, immOf S B M β w b → immOf S' w.heap.size M0 β0 w b := fun b hb => ⟨.inl (.inl hb), hb.2.1, fun hl => hb.2.2 (hlive0 b hl)⟩
  have hm0 : MemSat S' w.heap.size M0 β0 w := by
    refine ⟨Nat.le_refl _, fun j k ab ab' g c c' k1 k2 k3 l1 l2 l3 => ?_, fun j ab hj => ?_, fun b hl => .inl (.inr hl), hm.gl.mono hi0 (fun _ _ _ => rfl)⟩
    · have e := hm.inj _ _ _ _ g c c' (hM j ab k1).1 (by rw [AB.ren_alive]; exact k2) k3 (hM k ab' l1).1 (by rw [AB.ren_alive]; exact l2) l3
      exact hinj j k (by have := (List.getElem?_eq_some_iff.1 k1).1; omega) (by have := (List.getElem?_eq_some_iff.1 l1).1; omega) e
    · exact ent_from hM hlen.symm hi0 (List.all_eq_true.1 hu2 ab (List.mem_of_getElem? hj)) (hm.ent _ _ (hM j ab hj).1)
  have hargs0 := rens_from hM hlen.symm hi0 cargs _ hu1 h2
  refine (hc S' w.heap.size β0 w vs hm0 hargs0).mono ?_
  rintro e w' ⟨v, β1, rfl, hE, hm1, hv⟩
  -- the caller's frame behind the call
  let β' : Env := fun i => if i ∈ τ then β1 (τ.idxOf i) else β i
  have hβin : ∀ j, j < τ.length → β' (nth τ j) = β1 j := fun j hj => by
    have e := nth_of (List.getElem?_eq_getElem hj)
    have h3 : τ.idxOf τ[j] = j := hnd.idxOf_getElem j hj
    show (if nth τ j ∈ τ then β1 (τ.idxOf (nth τ j)) else β (nth τ j)) = β1 j
    rw [if_pos (hin j hj).1, e, h3]
  have hβout : ∀ i, i ∉ τ → β' i = β i := fun i hi => if_neg hi
  have hM1 : ∀ j ab, M1[j]? = some ab → M'[nth τ j]? = some (ab.ren (nth τ)) ∧ β' (nth τ j) = β1 j := fun j ab hj => by
    have hlt : j < τ.length := by rw [hτl]; exact (List.getElem?_eq_some_iff.1 hj).1
    exact ⟨by rw [hMin j hlt, hj]; rfl, hβin j hlt⟩
  -- who is alive
  have hsplit : ∀ i ab c b, M'[i]? = some ab → ab.alive = true → β' i = some (b, c) → (∃ j ab1, j < τ.length ∧ nth τ j = i ∧ M1[j]? = some ab1 ∧ ab = ab1.ren (nth τ) ∧ ab1.alive = true ∧ β1 j = some (b, c)) ∨ (i ∉ τ ∧ M[i]? = some ab ∧ β i = some (b, c)) := by
    intro i ab c b k1 k2 k3
    by_cases hi : i ∈ τ
    · obtain ⟨j, hj, rfl⟩ := hmem i hi
      rw [hMin j hj] at k1
      rw [hβin j hj] at k3
      obtain ⟨ab1, k4, k5⟩ := Option.map_eq_some_iff.1 k1
      exact .inl ⟨j, ab1, hj, rfl, k4, k5.symm, by rw [← k5, AB.ren_alive] at k2; exact k2, k3⟩
    · rw [hMout i hi] at k1
      rw [hβout i hi] at k3
      exact .inr ⟨hi, k1, k3⟩
  have hnot0 : ∀ i ab c b, i ∉ τ → M[i]? = some ab → ab.alive = true → β i = some (b, c) → ¬ live M0 β0 b := by
    rintro i ab c b hi k1 k2 k3 ⟨j, ab0, c0, l1, l2, l3⟩
    have hj : j < τ.length := by have := (List.getElem?_eq_some_iff.1 l1).1; omega
    have := hm.inj i (nth τ j) ab _ b c c0 k1 k2 k3 (hM j ab0 l1).1 (by rw [AB.ren_alive]; exact l2) l3
    exact hi (this ▸ (hin j hj).1)
  have hEv : Ev M β w M' β' w' := by
    refine ⟨hE.os, hE.tape, hE.output, hE.size, fun b hb hl => hE.keep b hb fun x => hl (hlive0 b x), fun b => ?_, fun i ab hi => ?_⟩
    · rintro ⟨i, ab, c, k1, k2, k3⟩
      rcases hsplit i ab c b k1 k2 k3 with ⟨j, ab1, hj, _, l1, _, l2, l3⟩ | ⟨_, l1, l2⟩
      · rcases hE.new b ⟨j, ab1, c, l1, l2, l3⟩ with h3 | h3
        · exact .inl (hlive0 b h3)
        · exact .inr h3
      · exact .inl ⟨i, ab, c, l1, k2, l2⟩
    · by_cases his : i ∈ τ
      · obtain ⟨j, hj, rfl⟩ := hmem i his
        rcases Nat.lt_or_ge j σ.length with hjs | hjs
        · have h3 : M0[j]? = some M0[j] := List.getElem?_eq_getElem (by rw [← hlen]; exact hjs)
          obtain ⟨h4, _⟩ := hM j _ h3
          rw [h4] at hi; cases hi
          obtain ⟨ab1, h5, h6⟩ := hE.ent j _ h3
          obtain ⟨h7, h8⟩ := hM1 j ab1 h5
          exact ⟨_, h7, by rw [h8]; exact h6.ren _⟩
        · exfalso
          have h3 := (hin j hj).2
          have h4 : nth τ j ∈ τ.drop σ.length := by
            apply List.mem_of_getElem? (i := j - σ.length)
            rw [List.getElem?_drop, show σ.length + (j - σ.length) = j by omega]
            exact h3
          have h5 := Nat.le_of_ble_eq_true (List.all_eq_true.1 hnew _ h4)
          have h6 := (List.getElem?_eq_some_iff.1 hi).1
          omega
      · exact ⟨ab, by rw [hMout i his]; exact hi, by rw [hβout i his]; exact EvE.refl _ _⟩
  have himm : ∀ b, immOf S' w.heap.size M1 β1 w' b → immOf S B M' β' w' b := by
    rintro b ⟨k1, k2, k3⟩
    refine ⟨?_, k2, ?_⟩
    · rcases k1 with (h3 | h3) | h3
      · exact h3.1
      · exact hm.own b (hlive0 b h3)
      · exact .inr (Nat.le_trans hm.lo h3)
    · rintro ⟨i, ab, c, l1, l2, l3⟩
      rcases hsplit i ab c b l1 l2 l3 with ⟨j, ab1, hj, _, p1, _, p2, p3⟩ | ⟨p0, p1, p2⟩
      · exact k3 ⟨j, ab1, c, p1, p2, p3⟩
      · have hl : live M β b := ⟨i, ab, c, p1, l2, p2⟩
        rcases k1 with (h3 | h3) | h3
        · exact h3.2.2 hl
        · exact hnot0 i ab c b p0 p1 l2 p2 h3
        · have := hm.lt hl; omega
  have hmem' : MemSat S B M' β' w' := by
    refine ⟨Nat.le_trans hm.lo hE.size, fun i k ab ab' g c c' k1 k2 k3 l1 l2 l3 => ?_, fun i ab hi => ?_, fun b hl => (hEv.new b hl).elim (hm.own b) (fun hb => .inr (Nat.le_trans hm.lo hb)), GL.ev hEv hm.gl⟩
    · have cross : ∀ (j : Nat) (ab1 : AB) (c c' : Nat) (i : Nat) (ab : AB), M1[j]? = some ab1 → ab1.alive = true → β1 j = some (g, c) → i ∉ τ → M[i]? = some ab → ab.alive = true → β i = some (g, c') → False := by
        intro j ab1 c c' i ab p1 p2 p3 q0 q1 q2 q3
        rcases hE.new g ⟨j, ab1, c, p1, p2, p3⟩ with h3 | h3
        · exact hnot0 i ab c' g q0 q1 q2 q3 h3
        · have := hm.lt ⟨i, ab, c', q1, q2, q3⟩; omega
      rcases hsplit i ab c g k1 k2 k3 with ⟨j, ab1, hj, rfl, p1, _, p2, p3⟩ | ⟨p0, p1, p2⟩ <;> rcases hsplit k ab' c' g l1 l2 l3 with ⟨j', ab1', hj', rfl, q1, _, q2, q3⟩ | ⟨q0, q1, q2⟩
      · rw [hm1.inj j j' ab1 ab1' g c c' p1 p2 p3 q1 q2 q3]
      · exact (cross j ab1 c c' k ab' p1 p2 p3 q0 q1 l2 q2).elim
      · exact (cross j' ab1' c' c i ab q1 q2 q3 p0 p1 k2 p2).elim
      · exact hm.inj i k ab ab' g c c' p1 k2 p2 q1 l2 q2
    · by_cases his : i ∈ τ
      · obtain ⟨j, hj, rfl⟩ := hmem i his
        rw [hMin j hj] at hi
        obtain ⟨ab1, h5, h6⟩ := Option.map_eq_some_iff.1 hi
        rw [← h6, hβin j hj]
        exact ent_to hM1 himm (hm1.ent j ab1 h5)
      · rw [hMout i his] at hi
        rw [hβout i his]
        refine EntSat.ev hEv (fun g c hg ha => hE.keep g (hm.lt ⟨i, ab, c, hi, ha, hg⟩) (hnot0 i ab c g his hi ha hg)) (hm.ent i ab hi)
  exact hK v β' w' hEv hmem' (ren_to hM1 himm res v hv)
end
/-- A contract from a walk, own memory handed in. -/
theorem mcalls_ofn {P : Program} {f : FuncId} {fn : Func} {c : Code} {M0 M1 : List AB} {args : List AV} {res : AV} {N : Nat} {F : List (Nat × AV)} (hf : P.funcs[f]? = some fn) (hN : fn.ntmps = N) (hb : fn.body = some c) (hF : nfF (argF 0 args) = some F) (hok : Nat.ble args.length N = true) (n : Nat) (hn : M0.length ≤ n)
    (h : ∀ S w β, AWp ⟨P, N, S, w, M0, β, none⟩ c ⟨M0, F⟩ (retM P fn n M1 res)) : MCalls P f M0 args M1 res := by
  intro S B β w vs hm hvs
  have hlen := Nat.le_of_ble_eq_true hok
  have hvl := hvs.len
  subst hN
  have hF := nfF_eq hF
  subst hF
  let S' : Nat → Prop := fun b => S b ∨ B ≤ b
  have hi0 : ∀ b, immOf S B M0 β w b → immOf S' w.heap.size M0 β w b := fun b hb => ⟨.inl hb.1, hb.2⟩
  have hm0 : MemSat S' w.heap.size M0 β w := ⟨Nat.le_refl _, hm.inj, fun i ab hi => by
    have he := hm.ent i ab hi
    cases ab with
    | gone => trivial
    | iter _ _ => exact he
    | rowo v e k pre mo l =>
      obtain ⟨q1, q2, g, cap, cs, q3, q4, q5, q6, q7, c1, c2, c3, q8, q9, q10⟩ := he
      exact ⟨q1, q2, g, cap, cs, q3, q4, q5, q6, q7, c1, c2, c3, q8, DenCs.mono hi0 (fun _ _ _ => rfl) _ _ q9, q10.mono (Ev.refl _ _ _) hi0 (fun _ _ _ => rfl)⟩
    | box e cells => obtain ⟨g, c, cs, k1, k2, k3⟩ := he; exact ⟨g, c, cs, k1, k2, k3.mono (Ev.refl _ _ _) hi0 (fun _ _ _ => rfl)⟩
    | row v e k es =>
      refine ⟨he.1, ?_⟩
      rcases he.2 with h0 | ⟨g, cap, cs, k1, k2, k3, k4, k5, k6⟩
      · exact .inl h0
      · exact .inr ⟨g, cap, cs, k1, k2, k3, k4, k5, DenCs.mono hi0 (fun _ _ _ => rfl) _ _ k6⟩, fun b hl => .inl (hm.own b hl), hm.gl.mono hi0 (fun _ _ _ => rfl)⟩
  have hs0 : Sat ⟨P, fn.ntmps, S', w, M0, β, none⟩ ⟨M0, argF 0 args⟩ { tmps := vs ++ Array.replicate (fn.ntmps - vs.size) undef, defers := [] } w :=
    ⟨by simp at hvl ⊢; omega, trivial, β, hm0, Ev.refl _ _ _, fun d => argF_satM (AVsats.mono (Ev.refl _ _ _) hi0 (fun _ _ _ => rfl) _ _ hvs) d⟩
  refine calls_of_awp (cx := ⟨P, fn.ntmps, S', w, M0, β, none⟩) rfl hf hb (h S' w β) hs0 fun e s' a' w' ⟨he, hM1, hu, xs, hr, hsub⟩ ⟨h1, _, β', h3, h4, h5⟩ => ⟨he, fun _ => ?_⟩
  obtain ⟨vs', h6, h7⟩ := run_retWs (P := P) (n := n) h3 h5 hr
  subst hM1
  have himm : ∀ b, immOf S' w.heap.size (s'.M.take n) β' w' b → immOf S B (s'.M.take n) β' w' b := fun b hb => ⟨hb.1.elim id (fun h => .inr (Nat.le_trans hm.lo h)), hb.2⟩
  have hmc := mem_cut h3 hu
  have hm1 : MemSat S B (s'.M.take n) β' w' := ⟨Nat.le_trans hm.lo h4.size, hmc.inj, fun i ab hi => by
    have he := hmc.ent i ab hi
    cases ab with
    | gone => trivial
    | iter _ _ => exact he
    | rowo v e k pre mo l =>
      obtain ⟨q1, q2, g, cap, cs, q3, q4, q5, q6, q7, c1, c2, c3, q8, q9, q10⟩ := he
      exact ⟨q1, q2, g, cap, cs, q3, q4, q5, q6, q7, c1, c2, c3, q8, DenCs.mono himm (fun _ _ _ => rfl) _ _ q9, q10.mono (Ev.refl _ _ _) himm (fun _ _ _ => rfl)⟩
    | box e cells => obtain ⟨g, c, cs, k1, k2, k3⟩ := he; exact ⟨g, c, cs, k1, k2, k3.mono (Ev.refl _ _ _) himm (fun _ _ _ => rfl)⟩
    | row v e k es =>
      refine ⟨he.1, ?_⟩
      rcases he.2 with h0 | ⟨g, cap, cs, k1, k2, k3, k4, k5, k6⟩
      · exact .inl h0
      · exact .inr ⟨g, cap, cs, k1, k2, k3, k4, k5, DenCs.mono himm (fun _ _ _ => rfl) _ _ k6⟩, fun b hl => (hmc.own b hl).elim id (fun h => .inr (Nat.le_trans hm.lo h)), hmc.gl.mono himm (fun _ _ _ => rfl)⟩
  have hEv : Ev M0 β w (s'.M.take n) β' w' := ⟨h4.os, h4.tape, h4.output, h4.size, h4.keep, fun b hb => h4.new b (live_cut hb), fun i ab hi => by
    obtain ⟨ab', k1, k2⟩ := h4.ent i ab hi
    exact ⟨ab', by rw [List.getElem?_take_of_lt (Nat.lt_of_lt_of_le (List.getElem?_eq_some_iff.1 hi).1 hn)]; exact k1, k2⟩⟩
  have h8 := AVsats.mono (Ev.refl _ _ _) himm (fun _ _ _ => rfl) _ _ h7
  have h9 : ∃ v, (results fn a'.tmps).run P w' = .ok v w' ∧ AVsat (s'.M.take n) β' w' (immOf S B (s'.M.take n) β' w') (tupOf xs) v := by
    rw [results_eq]
    refine ⟨if h : vs'.toArray.size = 1 then vs'.toArray[0] else .tuple vs'.toArray, by simp [h6], ?_⟩
    have hl := h8.len
    match xs, vs', hl, h8 with
    | [], [], _, h8 => exact ⟨#[], rfl, h8⟩
    | [x], [v], _, ⟨_, _, e, h3, _⟩ => cases e; exact h3
    | x :: y :: xs, v :: u :: vs, _, h8 => exact ⟨_, rfl, h8⟩
  obtain ⟨v, h10, h11⟩ := h9
  have h12 : ∃ v, (results fn a'.tmps).run P w' = .ok v w' ∧ ∃ v' β'', Ending.returned v = .returned v' ∧ Ev M0 β w (s'.M.take n) β'' w' ∧ MemSat S B (s'.M.take n) β'' w' ∧ AVsat (s'.M.take n) β'' w' (immOf S B (s'.M.take n) β'' w') res v' :=
    ⟨v, h10, v, β', rfl, hEv, hm1, hsub _ _ _ _ _ h11⟩
  exact h12
section
variable {P : Program} {ops : Array Oper} {N : Nat} {K : AS → Prop} {o : Oper} {r : List Oper} {fo fo' : Option (List Nat)} {M M' : List AB} {F : List (Nat × AV)} {dt : Tmp} {tab : List (Nat × TE)} {out : AV}
/-- A call that hands back own memory. -/
theorem r_rcall {f : FuncId} {xs : Array Operand} {ts : Array TypeId} {M1 M'' : List AB} {cargs : List AV} {res out : AV} (hc : MCalls P f [] cargs M1 res) (hcall : Callable P f) (hg : o.guard = none) (ho : o.op = .call { callee := .value (.func f), args := xs, argTypes := ts })
    (hargs : Subs (xs.toList.map (aval (look F))) cargs) (hfa : AV.frees cargs = true)
    (hM' : M ++ M1.map (AB.ren (nth (List.range' M.length M1.length))) = M'') (hr : nf (res.ren (nth (List.range' M.length M1.length))) = some out) (hdd : o.dst = some dt) (hd : dstB o.dst N = true) (hp : popF fo 2 = some fo') (k : RunX P ops N K r fo' M'' ((dt, out) :: F)) : RunX P ops N K (o :: r) fo M F := by
  subst hM'
  have hren : AV.rens (nth (List.range' M.length M1.length)) cargs = cargs := frees_ren _ _ hfa
  refine RunX.mk (fun _ k => Run.eff hd (StepG.plain hg (astep_mcallx [] (goes_f hcall ho) hc (List.range' M.length M1.length) trivial rfl List.nodup_range' (by simp) (by simp [List.all_eq_true, List.mem_range'_1]; intro x h1 _; exact h1) (fun j hj => ?_) (fun i hi => ?_) (by rw [hren]; exact hargs) (Nat.zero_le _) (by rw [Bool.and_eq_true]; exact ⟨frees_under _ _ hfa, rfl⟩))) (by rw [put_eq hdd, nf_eq hr]; exact k)) hp k
  · have hj' : j < M1.length := by simpa using hj
    have e2 : nth (List.range' M.length M1.length) j = M.length + j := nth_of (by rw [List.getElem?_range' hj']; simp)
    rw [e2, List.getElem?_append_right (by omega), Nat.add_sub_cancel_left, List.getElem?_map]
  · rcases Nat.lt_or_ge i M.length with h | h
    · exact List.getElem?_append_left h
    · have h2 : M.length + M1.length ≤ i := by
        simp only [List.mem_range'_1] at hi
        omega
      rw [List.getElem?_eq_none (by simp; omega), List.getElem?_eq_none (by omega)]
end
end
section
section
variable {P : Program} {o : Oper} {M M' : List AB} {ρ : Operand → AV} {out : AV} {tab : List (Nat × TE)}
theorem astep_field_e (ht : TyTab P tab) {T f off i ver j off0 e k : Nat} {fe : TE} {x : Operand} {es : List D} (ho : o.op = .fieldAddr T x f) (hf : fieldOf tab T f = some (off, fe)) (hx : ρ x = .eptr i ver j off0) (hM : M[i]? = some (.row ver e k es)) : AStep P o M ρ M (.eptr i ver j (off0 + off)) :=
  .value fun S B β a w hm hs => by
    have h1 := hs x (by simp [ho, Op.operands])
    rw [hx] at h1
    obtain ⟨ab, v1, v2⟩ := h1
    rw [hM] at v1; cases v1
    obtain ⟨g, c, h3, h2⟩ := v2.2 rfl
    refine ⟨.pointer (some ⟨g, j * k + off0 + off, none⟩), by simp [execOp, ho, h2, run_fieldAt ht hf], .row ver e k es, hM, Nat.le_refl _, fun _ => ⟨g, c, h3, by simp [Nat.add_assoc]⟩⟩
end
section
variable {P : Program} {ops : Array Oper} {N : Nat} {K : AS → Prop} {o : Oper} {r : List Oper} {fo fo' : Option (List Nat)} {M M' : List AB} {F : List (Nat × AV)} {dt : Tmp} {tab : List (Nat × TE)} {out : AV}
theorem r_fielde (ht : TyTab P tab) {T f off i ver j off0 e k' : Nat} {fe : TE} {x : Operand} {es : List D} (hg : o.guard = none) (ho : o.op = .fieldAddr T x f) (hf : fieldOf tab T f = some (off, fe)) (hx : aval (look F) x = .eptr i ver j off0) (hM : M[i]? = some (.row ver e k' es)) (hdd : o.dst = some dt) (hd : dstB o.dst N = true) (hp : popF fo 1 = some fo')
    (k : RunX P ops N K r fo' M ((dt, .eptr i ver j (off0 + off)) :: F)) : RunX P ops N K (o :: r) fo M F :=
  RunX.mk (fun _ k => Run.quiet hd (StepG.plain hg (astep_field_e ht ho hf hx hM)) (by rw [put_eq hdd]; exact k)) hp k
end
end
section
section
variable {P : Program} {o : Oper} {M M' : List AB} {ρ : Operand → AV}
theorem astep_mcall_all {f : FuncId} {xs : Array Operand} {ts : Array TypeId} {M1 : List AB} {cargs : List AV} {res : AV} (ho : o.op = .call { callee := .value (.func f), args := xs, argTypes := ts }) (hcall : Callable P f) (hc : MCalls P f M cargs M1 res)
    (hargs : Subs (xs.toList.map ρ) cargs) : AStep P o M ρ M1 res := by
  intro S B β a w hm hs K Q hK
  unfold Oper.wp
  rw [run_call hcall ho]
  have h1 := map_sat (l := xs.toList) fun x hx => hs x (mem_call ho hx)
  have h2 := hargs.sat h1
  refine (hc S B β w (xs.map a.eval) hm (by simpa using h2)).mono ?_
  rintro e w' ⟨v, β1, rfl, hE, hm1, hv⟩
  exact hK v β1 w' hE hm1 hv
variable {ops : Array Oper} {N : Nat} {K : AS → Prop} {r : List Oper} {fo fo' : Option (List Nat)} {F : List (Nat × AV)} {dt : Tmp} {out : AV}
theorem r_mcall_all {f : FuncId} {xs : Array Operand} {ts : Array TypeId} {M1 : List AB} {cargs : List AV} {res : AV} (hc : MCalls P f M cargs M1 res) (hcall : Callable P f) (hg : o.guard = none) (ho : o.op = .call { callee := .value (.func f), args := xs, argTypes := ts })
    (hargs : Subs (xs.toList.map (aval (look F))) cargs) (hr : nf res = some out) (hdd : o.dst = some dt) (hd : dstB o.dst N = true) (hp : popF fo 2 = some fo') (k : RunX P ops N K r fo' M1 ((dt, out) :: F)) : RunX P ops N K (o :: r) fo M F :=
  RunX.mk (fun _ k => Run.eff hd (StepG.plain hg (astep_mcall_all ho hcall hc hargs)) (by rw [put_eq hdd, nf_eq hr]; exact k)) hp k
end
end
section
theorem lend_row {S : Nat → Prop} {B : Nat} {M : List AB} {β : Env} {w : World} (hm : MemSat S B M β w) {i ver e k : Nat} {es : List D} (hM : M[i]? = some (.row ver e k es)) {v : Value} (h : AVsat M β w (immOf S B M β w) (.row i ver) v) :
    DenC w (fun b => b < w.heap.size) (.sl k es) [v] := by
  obtain ⟨hv, hn⟩ := row_val hm hM h
  obtain ⟨hw, he⟩ := hm.ent i _ hM
  subst hv
  rcases he with ⟨hb, rfl⟩ | ⟨g, cap, cs, hb, hr, h1, h2, h3, h4⟩
  · rw [hb]
    exact ⟨none, 0, 0, rfl, rfl, Nat.le_refl _, Nat.zero_le _, hw, fun h => absurd h (by omega)⟩
  · rw [hb]
    refine ⟨some ⟨g, 0, none⟩, es.length, cap, rfl, rfl, h1, h2, hw, fun _ => ⟨g, 0, _, rfl, ?_, DenCs.mono (fun b hb => hb.2.1) (fun _ _ _ => rfl) _ _ h4, fun j u hu => ?_⟩⟩
    · obtain ⟨fz, hg, _⟩ := hr; exact heap_lt hg
    · rw [Nat.zero_add, hr.cell]
      rw [List.getElem?_take] at hu
      split at hu
      · rw [← Array.getElem?_toList]; exact hu
      · cases hu
end
section
section
variable {P : Program} {o : Oper} {M M' : List AB} {ρ : Operand → AV} {out : AV} {tab : List (Nat × TE)}
theorem row_some {S : Nat → Prop} {B : Nat} {β : Env} {w : World} (hm : MemSat S B M β w) {i ver e k : Nat} {es : List D} (hM : M[i]? = some (.row ver e k es)) (hne : es ≠ []) :
    ∃ g c cs, β i = some (g, c) ∧ rowAt w g cs e ver (es.length * k) ∧ es.length ≤ c ∧ c ≤ maxLen ∧ cs.size = c * k ∧ DenCs w (immOf S B M β w) es (cs.toList.take (es.length * k)) := by
  obtain ⟨_, h | h⟩ := hm.ent i _ hM
  · exact absurd h.2 hne
  · exact h
end
end
section
theorem b_less : Less bStepL := less_of b_same bStep_goes
theorem nameL_esc {l : List Int} (h : escL l = true) : nameL l = ((escEL (l.drop 1)).1 :: (nameL (escEL (l.drop 1)).2).1, (nameL (escEL (l.drop 1)).2).2) := by
  have hn : ¬ nameF (gt l 0) = true := by
    rw [escL, Bool.and_eq_true, decide_eq_true_eq] at h
    rw [h.1]
    decide
  rw [nameL, goLs_go name_less (show nameStepL l = .inl ([(escEL (l.drop 1)).1], (escEL (l.drop 1)).2) by rw [nameStepL, if_neg hn, if_pos h])]
  rfl
end
section
/-- Behind a byte that is its own sign, and no line's end, it is read as by itself. -/
theorem readS_cat (c : UInt8) (b : List UInt8) (hc : plB c = true) (h10 : c.toNat ≠ 10) : ∀ (n : Nat) (a : List UInt8) (fi cr : Bool), a.length ≤ n → readS fi cr (a ++ c :: b) = readS fi cr a ++ bI c :: readS false false b := by
  have hc' := hc
  simp only [plB, Bool.and_eq_true, decide_eq_true_eq, Bool.not_eq_true', decide_eq_false_iff_not] at hc'
  have key : ∀ (fi cr : Bool), readS fi cr (c :: b) = bI c :: readS false false b := fun fi cr => by
    rw [readS_ascii fi cr c b hc'.1.1.1, if_neg (fun h => by omega), decide_eq_false (by omega), normR, if_neg (by omega), if_neg (by omega)]
    rfl
  intro n
  induction n with
  | zero =>
    intro a fi cr h
    have : a = [] := List.length_eq_zero_iff.1 (by omega)
    subst this
    exact key fi cr
  | succ n ih =>
    intro a fi cr h
    by_cases ha : a = []
    · subst ha
      exact key fi cr
    · have h1 := dec_loc a c b ha hc'.1.1.1
      have hp : 0 < a.length := List.length_pos_iff.2 ha
      rw [readS_step fi cr (l := a ++ c :: b) (by simp only [List.length_append, List.length_cons]; omega), readS_step fi cr (l := a) hp, h1.1, List.drop_append_of_le_length h1.2.1, ih (a.drop (decL a).2) _ _ (by rw [List.length_drop]; omega), List.append_assoc]
/-- A mark at the head is told by its first byte. -/
theorem readS_fi (b : List UInt8) (h : b.length ≤ 2 ∨ ∀ c r, b = c :: r → c.toNat ≠ 239) : readS true false b = readS false false b := by
  by_cases hb : 0 < b.length
  · rw [readS_step true false hb, readS_step false false hb]
    have hne : ¬ ((decL b).1 : Int) = 65279 := by
      intro he
      have he' : (decL b).1 = 65279 := by omega
      have hbt : ∀ k, (b[0 + k]!).toNat < 256 := fun k => (b[0 + k]!).toNat_lt
      have h0 := hbt 0; have h1 := hbt 1; have h2 := hbt 2; have h3 := hbt 3
      have h00 : (b[0 + 0]!).toNat ≠ 239 ∨ b.length ≤ 2 := by
        rcases h with h | h
        · exact .inr h
        · left
          match b, hb with
          | c :: r, _ => exact h c r rfl
      simp only [decL, Utf8.decode, get_list, sz_list, Utf8.runeError] at he'
      split at he'
      · simp only at he'; omega
      split at he'
      · split at he' <;> simp only at he' <;> omega
      split at he'
      · rename_i hc
        simp only [Bool.and_eq_true, decide_eq_true_eq, beq_iff_eq] at hc
        split at he' <;> simp only at he' <;> omega
      split at he'
      · split at he'
        · rename_i hc
          simp only [Bool.and_eq_true, decide_eq_true_eq] at hc
          simp only at he'; omega
        · simp only at he'; omega
      · simp only at he'; omega
    rw [if_neg (fun h => by rcases h with h | h; exact hne h.2; cases h.2), if_neg (fun h => by rcases h with h | h; exact hne h.2; cases h.2)]
  · have : b = [] := List.length_eq_zero_iff.1 (by omega)
    subst this
    rfl
end
section
theorem gd_b : Gd [32] := .inr ⟨[], rfl⟩
theorem gt0_gd {s : List Int} (h : Gd s) : gt s 0 = -1 ∨ gt s 0 = 32 := by
  rcases h with rfl | ⟨B, rfl⟩
  · exact .inl rfl
  · exact .inr rfl
section
variable {l s : List Int}
/-- A look ahead that sees no more than three signs behind the first, and these only if none of them is a blank. -/
theorem esc_gd (h : Gd s) : escL (l ++ s) = escL (l ++ [32]) ∨ l = [92] := by
  match l with
  | [] => left; rcases h with rfl | ⟨B, rfl⟩ <;> rfl
  | [c] =>
    by_cases hc : c = 92
    · right; rw [hc]
    · left
      show (decide (c = 92) && _) = (decide (c = 92) && _)
      rw [decide_eq_false hc]; rfl
  | c :: d :: r => left; rfl
theorem esc_gd' (h : Gd s) : escL (l ++ s) = escL (l ++ [32]) := by
  rcases esc_gd (l := l) h with e | rfl
  · exact e
  · rcases h with rfl | ⟨B, rfl⟩ <;> rfl
theorem digF_no {c : Int} (h : c = -1 ∨ c = 32) : digF c = false := by rcases h with rfl | rfl <;> rfl
theorem nameF_no {c : Int} (h : c = -1 ∨ c = 32) : nameF c = false := by rcases h with rfl | rfl <;> rfl
theorem hexF_no {c : Int} (h : c = -1 ∨ c = 32) : (hexF c).2 = false := by rcases h with rfl | rfl <;> rfl
theorem names_gd (h : Gd s) : namesL (l ++ s) = namesL (l ++ [32]) := by
  match l with
  | [] => rcases h with rfl | ⟨B, rfl⟩ <;> rfl
  | [c] => rcases h with rfl | ⟨B, rfl⟩ <;> rfl
  | [c, d] => rcases h with rfl | ⟨B, rfl⟩ <;> rfl
  | c :: d :: x :: r => rfl
theorem nums_gd (h : Gd s) : numsL (l ++ s) = numsL (l ++ [32]) := by
  match l with
  | [] => rcases h with rfl | ⟨B, rfl⟩ <;> rfl
  | [c] => rcases h with rfl | ⟨B, rfl⟩ <;> rfl
  | [c, d] => rcases h with rfl | ⟨B, rfl⟩ <;> rfl
  | c :: d :: x :: r => rfl
theorem hash_gd (h : Gd s) : hashL (l ++ s) = hashL (l ++ [32]) := by
  match l with
  | [] => rcases h with rfl | ⟨B, rfl⟩ <;> rfl
  | [c] => rcases h with rfl | ⟨B, rfl⟩ <;> rfl
  | [c, d] => rcases h with rfl | ⟨B, rfl⟩ <;> rfl
  | c :: d :: x :: r => rfl
theorem at_gd (h : Gd s) : atL (l ++ s) = atL (l ++ [32]) := by
  match l with
  | [] => rcases h with rfl | ⟨B, rfl⟩ <;> rfl
  | [c] => rcases h with rfl | ⟨B, rfl⟩ <;> rfl
  | [c, d] => rcases h with rfl | ⟨B, rfl⟩ <;> rfl
  | [c, d, x] => rcases h with rfl | ⟨B, rfl⟩ <;> rfl
  | c :: d :: x :: y :: r => rfl
theorem cdc_gd (h : Gd s) : cdcL (l ++ s) = cdcL (l ++ [32]) := by
  match l with
  | [] => rcases h with rfl | ⟨B, rfl⟩ <;> rfl
  | [c] => rcases h with rfl | ⟨B, rfl⟩ <;> simp [cdcL, gt]
  | [c, d] => rcases h with rfl | ⟨B, rfl⟩ <;> simp [cdcL, gt]
  | c :: d :: x :: r => rfl
theorem cdo_gd (h : Gd s) : cdoL (l ++ s) = cdoL (l ++ [32]) := by
  match l with
  | [] => rcases h with rfl | ⟨B, rfl⟩ <;> rfl
  | [c] => rcases h with rfl | ⟨B, rfl⟩ <;> simp [cdoL, gt]
  | [c, d] => rcases h with rfl | ⟨B, rfl⟩ <;> simp [cdoL, gt]
  | [c, d, x] => rcases h with rfl | ⟨B, rfl⟩ <;> simp [cdoL, gt]
  | c :: d :: x :: y :: r => rfl
theorem dot_gd (h : Gd s) : nDotL (l ++ s) = nDotL (l ++ [32]) := by
  match l with
  | [] => rcases h with rfl | ⟨B, rfl⟩ <;> rfl
  | [c] => rcases h with rfl | ⟨B, rfl⟩ <;> rfl
  | c :: d :: r => rfl
theorem ex_gd (h : Gd s) : nExL (l ++ s) = nExL (l ++ [32]) := by
  match l with
  | [] => rcases h with rfl | ⟨B, rfl⟩ <;> rfl
  | [c] => rcases h with rfl | ⟨B, rfl⟩ <;> rfl
  | [c, d] => rcases h with rfl | ⟨B, rfl⟩ <;> simp [nExL, nKL, gt] <;> split <;> simp [gt, digF_no]
  | c :: d :: x :: r => 
    have hk : nKL (c :: d :: x :: (r ++ s)) = 2 ∨ nKL (c :: d :: x :: (r ++ s)) = 1 := by unfold nKL; split <;> simp
    show (_ && digF (gt (c :: d :: x :: (r ++ s)) (nKL (c :: d :: x :: (r ++ s))))) = (_ && digF (gt (c :: d :: x :: (r ++ [32])) (nKL (c :: d :: x :: (r ++ s)))))
    rcases hk with hk | hk <;> rw [hk] <;> rfl
end
theorem hexR_stb : ∀ (m : Nat) (l : List Int) (n : Int), ∃ v l', l'.length ≤ l.length ∧ ∀ s, Gd s → hexRL m (l ++ s) n = (v, l' ++ s)
  | 0, l, n => ⟨n, l, Nat.le_refl _, fun s _ => rfl⟩
  | m + 1, l, n => by
    match l with
    | [] =>
      refine ⟨n, [], Nat.le_refl _, fun s hs => ?_⟩
      rw [hexRL, List.nil_append, if_neg (by rw [hexF_no (gt0_gd hs)]; decide)]
    | c :: r =>
      by_cases hc : (hexF c).2 = true
      · obtain ⟨v, l', h1, h2⟩ := hexR_stb m r (n * 16 + (hexF c).1)
        refine ⟨v, l', by simp; omega, fun s hs => ?_⟩
        rw [hexRL, if_pos (by exact hc)]
        exact h2 s hs
      · refine ⟨n, c :: r, Nat.le_refl _, fun s hs => ?_⟩
        rw [hexRL, if_neg (by exact hc)]
theorem esc_stb (l : List Int) : Stb escEL l := by
  match l with
  | [] => right; rfl
  | c :: r =>
    by_cases h0 : c < 0
    · left
      refine ⟨65533, c :: r, Nat.le_refl _, fun s hs => ?_⟩
      rw [escEL, if_pos (by exact h0)]
    by_cases h1 : (hexF c).2 = false
    · left
      refine ⟨c, r, by simp, fun s hs => ?_⟩
      rw [escEL, if_neg (by exact h0), if_pos (by exact h1)]
      rfl
    obtain ⟨v, l', hl, hv⟩ := hexR_stb 6 (c :: r) 0
    have key : ∀ s, Gd s → escEL (c :: r ++ s) = (codeF v, if whiteF (gt (l' ++ s) 0) = true then (l' ++ s).drop 1 else l' ++ s) := fun s hs => by
      rw [escEL, if_neg (by exact h0), if_neg (by exact h1), hv s hs]
    match l' with
    | [] =>
      right
      rw [key [32] gd_b]
      rfl
    | d :: q =>
      left
      by_cases hw : whiteF d = true
      · refine ⟨codeF v, q, by simp at hl ⊢; omega, fun s hs => ?_⟩
        rw [key s hs, if_pos (by exact hw)]
        rfl
      · refine ⟨codeF v, d :: q, hl, fun s hs => ?_⟩
        rw [key s hs, if_neg (by exact hw)]
theorem dig_stb (l : List Int) : ∃ v l', l'.length ≤ l.length ∧ ∀ s, Gd s → digL (l ++ s) = (v, l' ++ s) := by
  induction l with
  | nil => exact ⟨[], [], Nat.le_refl _, fun s hs => by rw [List.nil_append, digL_no (digF_no (gt0_gd hs))]⟩
  | cons c r ih =>
    by_cases hc : digF c = true
    · obtain ⟨v, l', h1, h2⟩ := ih
      refine ⟨c :: v, l', by simp; omega, fun s hs => ?_⟩
      rw [digL_go (by exact hc)]
      show (c :: (digL (r ++ s)).1, (digL (r ++ s)).2) = _
      rw [h2 s hs]
    · exact ⟨[], c :: r, Nat.le_refl _, fun s hs => digL_no (by show digF c = false; simpa using hc)⟩
theorem nameL_end : nameL [] = ([], []) := nameL_no rfl rfl
theorem name_stb : ∀ (n : Nat) (l : List Int), l.length ≤ n → Stb nameL l := by
  intro n
  induction n with
  | zero =>
    intro l hl
    have : l = [] := List.length_eq_zero_iff.1 (by omega)
    subst this
    left
    refine ⟨[], [], Nat.le_refl _, fun s hs => ?_⟩
    rw [List.nil_append, nameL_no (nameF_no (gt0_gd hs)) (by rw [escL, decide_eq_false (by rcases gt0_gd hs with h | h <;> rw [h] <;> decide)]; rfl)]
  | succ n ih =>
    intro l hl
    match l, hl with
    | [], _ => exact ih [] (Nat.zero_le _)
    | c :: r, hl =>
      by_cases hc : nameF c = true
      · have hg : ∀ s, nameL (c :: r ++ s) = (c :: (nameL (r ++ s)).1, (nameL (r ++ s)).2) := fun s => nameL_go (l := c :: r ++ s) (by exact hc)
        rcases ih r (by simp at hl; omega) with ⟨v, l', h1, h2⟩ | h
        · left
          refine ⟨c :: v, l', by simp; omega, fun s hs => ?_⟩
          rw [hg, h2 s hs]
        · right
          rw [hg]
          exact h
      by_cases he : escL (c :: r ++ [32]) = true
      · have hg : ∀ s, Gd s → nameL (c :: r ++ s) = ((escEL (r ++ s)).1 :: (nameL (escEL (r ++ s)).2).1, (nameL (escEL (r ++ s)).2).2) := fun s hs => nameL_esc (l := c :: r ++ s) (by rw [esc_gd' hs]; exact he)
        rcases esc_stb r with ⟨v, l', h1, h2⟩ | h
        · rcases ih l' (by simp at hl; omega) with ⟨v2, l2, h3, h4⟩ | h
          · left
            refine ⟨v :: v2, l2, by simp; omega, fun s hs => ?_⟩
            rw [hg s hs, h2 s hs, h4 s hs]
          · right
            rw [hg [32] gd_b, h2 [32] gd_b]
            exact h
        · right
          rw [hg [32] gd_b, h, nameL_end]
      · left
        refine ⟨[], c :: r, Nat.le_refl _, fun s hs => ?_⟩
        exact nameL_no (by show nameF c = false; simpa using hc) (by rw [esc_gd' hs]; simpa using he)
theorem w_stb (l : List Int) : (∃ c l', (c :: l').length ≤ l.length ∧ whiteF c = false ∧ ∀ s, wL (l ++ s) = c :: l' ++ s) ∨ wL (l ++ [32]) = [] := by
  induction l with
  | nil => right; rfl
  | cons c r ih =>
    by_cases hc : whiteF c = true
    · rcases ih with ⟨d, l', h1, h3, h2⟩ | h
      · left
        refine ⟨d, l', by simp at h1 ⊢; omega, h3, fun s => ?_⟩
        rw [List.cons_append, wL_go (by exact hc)]
        exact h2 s
      · right
        rw [List.cons_append, wL_go (by exact hc)]
        exact h
    · left
      exact ⟨c, r, Nat.le_refl _, by simpa using hc, fun s => wL_no (by show whiteF c = false; simpa using hc)⟩
theorem bL0_go {l l' : List Int} (h : bStepL l = .inl ([], l')) : bL0 l = bL0 l' := by rw [bL0, goLs_go b_less h]; rfl
theorem bL0_no {l l' : List Int} (h : bStepL l = .inr l') : bL0 l = l' := by rw [bL0, goLs_stop h]; rfl
theorem b0_stb : ∀ (n : Nat) (l : List Int), l.length ≤ n → (∃ l', (41 :: l').length ≤ l.length ∧ ∀ s, Gd s → bL0 (l ++ s) = 41 :: l' ++ s) ∨ bL0 (l ++ [32]) = [] ∨ ∃ c l', c < 0 ∧ (c :: l').length ≤ l.length ∧ ∀ s, Gd s → bL0 (l ++ s) = c :: l' ++ s := by
  intro n
  induction n with
  | zero =>
    intro l hl
    have : l = [] := List.length_eq_zero_iff.1 (by omega)
    subst this
    right; left; rfl
  | succ n ih =>
    intro l hl
    match l, hl with
    | [], _ => right; left; rfl
    | c :: r, hl =>
      by_cases hc : c = 41
      · subst hc
        left
        exact ⟨r, Nat.le_refl _, fun s hs => bL0_no (if_neg (fun h => h.2 rfl))⟩
      by_cases h0 : c < 0
      · right; right
        exact ⟨c, r, h0, Nat.le_refl _, fun s hs => bL0_no (if_neg (fun h => by have := h.1; change 0 ≤ c at this; omega))⟩
      by_cases he : escL (c :: r ++ [32]) = true
      · have hg : ∀ s, Gd s → bL0 (c :: r ++ s) = bL0 (escEL (r ++ s)).2 := fun s hs => bL0_go (by
          rw [bStepL, if_pos ⟨by show 0 ≤ c; omega, hc⟩, if_pos (by rw [esc_gd' hs]; exact he)]; rfl)
        rcases esc_stb r with ⟨v, l', h1, h2⟩ | h
        · have key : ∀ s, Gd s → bL0 (c :: r ++ s) = bL0 (l' ++ s) := fun s hs => by rw [hg s hs, h2 s hs]
          rcases ih l' (by simp at hl; omega) with ⟨q, h3, h4⟩ | h | ⟨d, q, h5, h3, h4⟩
          · left
            exact ⟨q, by simp at h3 ⊢; omega, fun s hs => by rw [key s hs, h4 s hs]⟩
          · right; left
            rw [key [32] gd_b]; exact h
          · right; right
            exact ⟨d, q, h5, by simp at h3 ⊢; omega, fun s hs => by rw [key s hs, h4 s hs]⟩
        · right; left
          rw [hg [32] gd_b, h]; rfl
      · have hg : ∀ s, Gd s → bL0 (c :: r ++ s) = bL0 (r ++ s) := fun s hs => bL0_go (by
          rw [bStepL, if_pos ⟨by show 0 ≤ c; omega, hc⟩, if_neg (by rw [esc_gd' hs]; exact he)]; rfl)
        rcases ih r (by simp at hl; omega) with ⟨q, h3, h4⟩ | h | ⟨d, q, h5, h3, h4⟩
        · left
          exact ⟨q, by simp at h3 ⊢; omega, fun s hs => by rw [hg s hs, h4 s hs]⟩
        · right; left
          rw [hg [32] gd_b]; exact h
        · right; right
          exact ⟨d, q, h5, by simp at h3 ⊢; omega, fun s hs => by rw [hg s hs, h4 s hs]⟩
theorem b_stb (l : List Int) : Stw bL l := by
  rcases b0_stb l.length l (Nat.le_refl _) with ⟨q, h3, h4⟩ | h | ⟨d, q, h5, h3, h4⟩
  · left
    refine ⟨q, by simp at h3; omega, fun s hs => ?_⟩
    rw [bL, h4 s hs]
    exact if_pos rfl
  · right
    rw [bL, h]
    rfl
  · left
    refine ⟨d :: q, h3, fun s hs => ?_⟩
    rw [bL, h4 s hs]
    exact if_neg (fun h => by change d = 41 at h; omega)
end
section
theorem quo_stb (q : Int) (hq : q ≠ 32) : ∀ (n : Nat) (l : List Int), l.length ≤ n → Stb (quoR q) l := by
  intro n
  induction n with
  | zero =>
    intro l hl
    have : l = [] := List.length_eq_zero_iff.1 (by omega)
    subst this
    right
    have h : qStepL q [32] = .inl ([32], []) := by
      rw [qStepL, if_neg (by decide), if_neg (fun h => hq h.symm), if_neg (by decide), if_neg (by decide), if_neg (by decide), if_neg (by decide)]
      rfl
    rw [List.nil_append, quoR_go h]
    rfl
  | succ n ih =>
    intro l hl
    match l, hl with
    | [], _ => exact ih [] (Nat.zero_le _)
    | c :: r, hl =>
      have hr : r.length ≤ n := by simp at hl; omega
      by_cases h0 : c < 0
      · left
        exact ⟨([], true), c :: r, Nat.le_refl _, fun s hs => quoR_no (r := (c :: r ++ s, true)) (if_pos h0)⟩
      by_cases h1 : c = q
      · left
        refine ⟨([], true), r, by simp, fun s hs => quoR_no (r := (r ++ s, true)) ?_⟩
        rw [qStepL, if_neg (by exact h0), if_pos (by exact h1)]; rfl
      by_cases h2 : c = 10
      · left
        refine ⟨([], false), c :: r, Nat.le_refl _, fun s hs => quoR_no (r := (c :: r ++ s, false)) ?_⟩
        rw [qStepL, if_neg (by exact h0), if_neg (by exact h1), if_pos (by exact h2)]
      by_cases h3 : c = 92
      · subst h3
        match r, hr with
        | [], _ =>
          right
          have h : qStepL q [92, 32] = .inl ([32], []) := by
            rw [qStepL, if_neg (by decide), if_neg (by exact h1), if_neg (by decide), if_neg (by decide), if_neg (by decide), if_pos (by decide)]
            rfl
          show (quoR q [92, 32]).2 = []
          rw [quoR_go h]
          rfl
        | d :: r, hr =>
          by_cases hd : d < 0
          · have hg : ∀ s, quoR q (92 :: d :: r ++ s) = (([] ++ (quoR q (d :: r ++ s)).1.1, (quoR q (d :: r ++ s)).1.2), (quoR q (d :: r ++ s)).2) := fun s => quoR_go (by
              rw [qStepL, if_neg (by exact h0), if_neg (by exact h1), if_neg (by exact h2), if_pos ⟨rfl, hd⟩]; rfl)
            rcases ih (d :: r) hr with ⟨v, l', h4, h5⟩ | h
            · left
              exact ⟨([] ++ v.1, v.2), l', by simp at h4 ⊢; omega, fun s hs => by rw [hg, h5 s hs]⟩
            · right
              rw [hg]; exact h
          by_cases hd2 : d = 10
          · have hg : ∀ s, quoR q (92 :: d :: r ++ s) = (([] ++ (quoR q (r ++ s)).1.1, (quoR q (r ++ s)).1.2), (quoR q (r ++ s)).2) := fun s => quoR_go (by
              rw [qStepL, if_neg (by exact h0), if_neg (by exact h1), if_neg (by exact h2), if_neg (fun h => hd h.2), if_pos ⟨rfl, hd2⟩]; rfl)
            rcases ih r (by simp at hr; omega) with ⟨v, l', h4, h5⟩ | h
            · left
              exact ⟨([] ++ v.1, v.2), l', by simp; omega, fun s hs => by rw [hg, h5 s hs]⟩
            · right
              rw [hg]; exact h
          · have hg : ∀ s, quoR q (92 :: (d :: r) ++ s) = (([(escEL (d :: r ++ s)).1] ++ (quoR q (escEL (d :: r ++ s)).2).1.1, (quoR q (escEL (d :: r ++ s)).2).1.2), (quoR q (escEL (d :: r ++ s)).2).2) := fun s => quoR_go (by
              rw [qStepL, if_neg (by exact h0), if_neg (by exact h1), if_neg (by exact h2), if_neg (fun h => hd h.2), if_neg (fun h => hd2 h.2), if_pos (by rfl)]; rfl)
            rcases esc_stb (d :: r) with ⟨v, l', h4, h5⟩ | h
            · rcases ih l' (by omega) with ⟨v2, l2, h6, h7⟩ | h
              · left
                exact ⟨([v] ++ v2.1, v2.2), l2, by simp at h4 ⊢; omega, fun s hs => by rw [hg, h5 s hs, h7 s hs]⟩
              · right
                rw [hg, h5 [32] gd_b]; exact h
            · right
              rw [hg, h]
              rfl
      · have hg : ∀ s, quoR q (c :: r ++ s) = (([c] ++ (quoR q (r ++ s)).1.1, (quoR q (r ++ s)).1.2), (quoR q (r ++ s)).2) := fun s => quoR_go (by
          rw [qStepL, if_neg (by exact h0), if_neg (by exact h1), if_neg (by exact h2), if_neg (fun h => h3 h.1), if_neg (fun h => h3 h.1), if_neg (by exact h3)]; rfl)
        rcases ih r hr with ⟨v, l', h4, h5⟩ | h
        · left
          exact ⟨([c] ++ v.1, v.2), l', by simp; omega, fun s hs => by rw [hg, h5 s hs]⟩
        · right
          rw [hg]; exact h
theorem urlR_stb : ∀ (n : Nat) (l : List Int), l.length ≤ n → Stb urlR l := by
  intro n
  induction n with
  | zero =>
    intro l hl
    have : l = [] := List.length_eq_zero_iff.1 (by omega)
    subst this
    right; rfl
  | succ n ih =>
    intro l hl
    match l, hl with
    | [], _ => exact ih [] (Nat.zero_le _)
    | c :: r, hl =>
      have hr : r.length ≤ n := by simp at hl; omega
      by_cases h0 : c < 0 ∨ c = 41
      · left
        by_cases h1 : c = 41
        · exact ⟨([], true), r, by simp, fun s hs => urlR_no (r := (r ++ s, true)) (by rw [uStepL, if_pos (by exact h0), if_pos (by exact h1)]; rfl)⟩
        · exact ⟨([], true), c :: r, Nat.le_refl _, fun s hs => urlR_no (r := (c :: r ++ s, true)) (by rw [uStepL, if_pos (by exact h0), if_neg (by exact h1)])⟩
      by_cases hw : whiteF c = true
      · rcases w_stb (c :: r) with ⟨d, q, h2, h3, h4⟩ | h
        · by_cases h5 : d < 0 ∨ d = 41
          · have hg : ∀ s, urlR (c :: r ++ s) = (([] ++ (urlR (d :: q ++ s)).1.1, (urlR (d :: q ++ s)).1.2), (urlR (d :: q ++ s)).2) := fun s => urlR_go (by
              rw [uStepL, if_neg (by exact h0), if_pos (by exact hw), h4 s, if_pos (by exact h5)])
            have hne : (d :: q).length ≤ n := by
              rcases Nat.lt_or_ge n (d :: q).length with h | h
              · exfalso
                have h6 := h4 []
                rw [List.append_nil, List.append_nil, wL_go (by exact hw)] at h6
                have h7 : (wL ((c :: r).drop 1)).length ≤ r.length := by
                  have := w_L r (i := 0) (Nat.zero_le _)
                  rw [List.drop_zero] at this
                  show (wL r).length ≤ _
                  rw [this, List.length_drop]; omega
                rw [h6] at h7
                omega
              · exact h
            rcases ih (d :: q) hne with ⟨v, l', h6, h7⟩ | h
            · left
              exact ⟨([] ++ v.1, v.2), l', by simp at h2 h6 ⊢; omega, fun s hs => by rw [hg, h7 s hs]⟩
            · right
              rw [hg]; exact h
          · have hg : ∀ s, urlR (c :: r ++ s) = (([], false), bL (d :: q ++ s)) := fun s => urlR_no (r := (bL (d :: q ++ s), false)) (by
              rw [uStepL, if_neg (by exact h0), if_pos (by exact hw), h4 s, if_neg (by exact h5)])
            rcases b_stb (d :: q) with ⟨l', h6, h7⟩ | h
            · left
              exact ⟨([], false), l', by simp at h2 h6 ⊢; omega, fun s hs => by rw [hg, h7 s hs]⟩
            · right
              rw [hg]; exact h
        · right
          have hg : urlR (c :: r ++ [32]) = (([] ++ (urlR []).1.1, (urlR []).1.2), (urlR []).2) := urlR_go (by
            rw [uStepL, if_neg (by exact h0), if_pos (by exact hw), h, if_pos (by decide)])
          rw [hg]
          rfl
      by_cases hb : ∀ s, Gd s → (badF c || (decide (c = 92) && !escL (c :: r ++ s))) = true
      · have hg : ∀ s, Gd s → urlR (c :: r ++ s) = (([], false), bL (c :: r ++ s)) := fun s hs => urlR_no (r := (bL (c :: r ++ s), false)) (by
          rw [uStepL, if_neg (by exact h0), if_neg (by exact hw), if_pos (by exact hb s hs)])
        rcases b_stb (c :: r) with ⟨l', h6, h7⟩ | h
        · left
          exact ⟨([], false), l', h6, fun s hs => by rw [hg s hs, h7 s hs]⟩
        · right
          rw [hg [32] gd_b]; exact h
      have hb' : ∀ s, Gd s → ¬ (badF c || (decide (c = 92) && !escL (c :: r ++ s))) = true := fun s hs h => by
        apply hb
        intro s' hs'
        rw [esc_gd' hs'] ; rw [esc_gd' hs] at h; exact h
      by_cases h3 : c = 92
      · subst h3
        have hg : ∀ s, Gd s → urlR (92 :: r ++ s) = (([(escEL (r ++ s)).1] ++ (urlR (escEL (r ++ s)).2).1.1, (urlR (escEL (r ++ s)).2).1.2), (urlR (escEL (r ++ s)).2).2) := fun s hs => urlR_go (by
          rw [uStepL, if_neg (by exact h0), if_neg (by exact hw), if_neg (by exact hb' s hs), if_pos (by rfl)]; rfl)
        rcases esc_stb r with ⟨v, l', h4, h5⟩ | h
        · rcases ih l' (by omega) with ⟨v2, l2, h6, h7⟩ | h
          · left
            exact ⟨([v] ++ v2.1, v2.2), l2, by simp; omega, fun s hs => by rw [hg s hs, h5 s hs, h7 s hs]⟩
          · right
            rw [hg [32] gd_b, h5 [32] gd_b]; exact h
        · right
          rw [hg [32] gd_b, h]
          rfl
      · have hg : ∀ s, Gd s → urlR (c :: r ++ s) = (([c] ++ (urlR (r ++ s)).1.1, (urlR (r ++ s)).1.2), (urlR (r ++ s)).2) := fun s hs => urlR_go (by
          rw [uStepL, if_neg (by exact h0), if_neg (by exact hw), if_neg (by exact hb' s hs), if_neg (by exact h3)]; rfl)
        rcases ih r hr with ⟨v, l', h4, h5⟩ | h
        · left
          exact ⟨([c] ++ v.1, v.2), l', by simp; omega, fun s hs => by rw [hg s hs, h5 s hs]⟩
        · right
          rw [hg [32] gd_b]; exact h
theorem quoL_stb (q : Int) (hq : q ≠ 32) (l : List Int) : Stb (quoL q) l := by
  rcases quo_stb q hq l.length l (Nat.le_refl _) with ⟨v, l', h1, h2⟩ | h
  · left
    exact ⟨if v.2 = true then tkK 5 (runesBytes v.1) else tkK 6 ⟨#[]⟩, l', h1, fun s hs => by rw [quo_R, h2 s hs]⟩
  · right
    exact h
theorem urlL_stb (l : List Int) : Stb urlL l := by
  rcases w_stb l with ⟨c, q, h1, h2, h3⟩ | h
  · rcases urlR_stb (c :: q).length (c :: q) (Nat.le_refl _) with ⟨v, l', h4, h5⟩ | h
    · left
      exact ⟨if v.2 = true then tkK 7 (runesBytes v.1) else tkK 8 ⟨#[]⟩, l', by omega, fun s hs => by rw [url_R, h3 s, h5 s hs]⟩
    · right
      rw [url_R, h3]
      exact h
  · right
    rw [url_R, h]
    rfl
end
section
theorem n1_st (l : List Int) : ∃ (b : Bool) (t l' : List Int), l'.length ≤ l.length ∧ ∀ s, Gd s → nSL (l ++ s) = b ∧ nT1L (l ++ s) = t ∧ n1L (l ++ s) = l' ++ s := by
  match l with
  | [] =>
    refine ⟨false, [], [], Nat.le_refl _, fun s hs => ?_⟩
    have e : nSL s = false := by rcases hs with rfl | ⟨B, rfl⟩ <;> rfl
    rw [List.nil_append, nT1L, n1L, e]
    exact ⟨rfl, rfl, rfl⟩
  | c :: r =>
    cases hb : nSL (c :: r) with
    | true =>
      refine ⟨true, [c], r, by simp, fun s hs => ?_⟩
      have e : nSL (c :: r ++ s) = true := hb
      rw [nT1L, n1L, e]
      exact ⟨rfl, rfl, rfl⟩
    | false =>
      refine ⟨false, [], c :: r, Nat.le_refl _, fun s hs => ?_⟩
      have e : nSL (c :: r ++ s) = false := hb
      rw [nT1L, n1L, e]
      exact ⟨rfl, rfl, rfl⟩
theorem n3_st (l : List Int) : ∃ (b : Bool) (l' : List Int), l'.length ≤ l.length ∧ ∀ s, Gd s → nDotL (l ++ s) = b ∧ n3L (l ++ s) = l' ++ s := by
  cases hb : nDotL (l ++ [32]) with
  | false => exact ⟨false, l, Nat.le_refl _, fun s hs => by
      have e := (dot_gd (l := l) hs).trans hb
      rw [n3L, e]; exact ⟨rfl, rfl⟩⟩
  | true =>
    match l, hb with
    | [], hb => cases hb
    | c :: r, hb =>
      obtain ⟨v, l', h1, h2⟩ := dig_stb r
      refine ⟨true, l', by simp; omega, fun s hs => ?_⟩
      have e := (dot_gd (l := c :: r) hs).trans hb
      rw [n3L, e, if_pos rfl]
      refine ⟨rfl, ?_⟩
      show (digL (r ++ s)).2 = _
      rw [h2 s hs]
theorem nK_gd {l s : List Int} (h : Gd s) (hl : l ≠ []) : nKL (l ++ s) = nKL (l ++ [32]) := by
  match l, hl with
  | [c], _ => rcases h with rfl | ⟨B, rfl⟩ <;> rfl
  | c :: d :: r, _ => rfl
theorem n4_st (l : List Int) : ∃ (b : Bool) (l' : List Int), l'.length ≤ l.length ∧ ∀ s, Gd s → nExL (l ++ s) = b ∧ n4L (l ++ s) = l' ++ s := by
  cases hb : nExL (l ++ [32]) with
  | false => exact ⟨false, l, Nat.le_refl _, fun s hs => by
      have e := (ex_gd (l := l) hs).trans hb
      rw [n4L, e]; exact ⟨rfl, rfl⟩⟩
  | true =>
    have hk : nKL (l ++ [32]) ≤ l.length := by
      rw [nExL, Bool.and_eq_true] at hb
      rcases Nat.lt_or_ge l.length (nKL (l ++ [32])) with h | h
      · exfalso
        have h2 := hb.2
        have : gt (l ++ [32]) (nKL (l ++ [32])) = -1 := by rw [gt_get, List.getElem?_eq_none (by rw [List.length_append, List.length_singleton]; omega)]; rfl
        rw [this] at h2
        cases h2
      · exact h
    have hne : l ≠ [] := fun h => by subst h; cases hb
    obtain ⟨v, l', h1, h2⟩ := dig_stb (l.drop (nKL (l ++ [32])))
    refine ⟨true, l', by rw [List.length_drop] at h1; omega, fun s hs => ?_⟩
    have e := (ex_gd (l := l) hs).trans hb
    rw [n4L, e, if_pos rfl, nK_gd hs hne, List.drop_append_of_le_length hk, h2 s hs]
    exact ⟨rfl, rfl⟩
theorem num_stb (l : List Int) : Stb numL l := by
  obtain ⟨b1, t1, l1, g1, f1⟩ := n1_st l
  obtain ⟨v2, l2, g2, f2⟩ := dig_stb l1
  obtain ⟨b3, l3, g3, f3⟩ := n3_st l2
  obtain ⟨b4, l4, g4, f4⟩ := n4_st l3
  have e2 : ∀ s, Gd s → n2L (l ++ s) = l2 ++ s := fun s hs => by rw [n2L, (f1 s hs).2.2, f2 s hs]
  have eP : ∀ s, Gd s → nPL (l ++ s) = l4 ++ s := fun s hs => by rw [nPL, e2 s hs, (f3 s hs).2, (f4 s hs).2]
  obtain ⟨T, hT⟩ : ∃ T : Tk, T = ⟨10, ⟨#[]⟩, if (!b3 && !b4) = true then intF (runesBytes (t1 ++ v2)) else 0, !b3 && !b4, b1, false⟩ := ⟨_, rfl⟩
  have eT : ∀ s, Gd s → nTkL (l ++ s) = T := fun s hs => by
    rw [hT, nTkL, nWL, nTL, e2 s hs, (f1 s hs).1, (f1 s hs).2.1, (f1 s hs).2.2, f2 s hs, (f3 s hs).1, (f3 s hs).2, (f4 s hs).1]
  have eG : ∀ s, Gd s → numL (l ++ s) = if namesL (l4 ++ [32]) = true then ({ T with kind := 12, text := runesBytes (nameL (l4 ++ s)).1 }, (nameL (l4 ++ s)).2)
      else if gt (l4 ++ s) 0 = 37 then ({ T with kind := 11 }, (l4 ++ s).drop 1) else (T, l4 ++ s) := fun s hs => by
    rw [numL, eP s hs, eT s hs, names_gd hs]
  have hlen : l4.length ≤ l.length := by omega
  clear f1 f2 f3 f4 e2 eP eT
  cases hn : namesL (l4 ++ [32]) with
  | true =>
    rcases name_stb l4.length l4 (Nat.le_refl _) with ⟨v, l', h1, h2⟩ | h
    · left
      exact ⟨{ T with kind := 12, text := runesBytes v }, l', by omega, fun s hs => by rw [eG s hs, hn, if_pos rfl, h2 s hs]⟩
    · right
      rw [eG [32] gd_b, hn, if_pos rfl]
      exact h
  | false =>
    left
    match l4, hlen with
    | [], _ =>
      refine ⟨T, [], Nat.zero_le _, fun s hs => ?_⟩
      rw [eG s hs, hn, if_neg Bool.false_ne_true, if_neg (by rcases gt0_gd hs with h | h <;> rw [List.nil_append, h] <;> decide)]
    | c :: r, hlen =>
      by_cases hc : c = 37
      · refine ⟨{ T with kind := 11 }, r, by simp at hlen; omega, fun s hs => ?_⟩
        rw [eG s hs, hn, if_neg Bool.false_ne_true, if_pos (by exact hc)]
        rfl
      · refine ⟨T, c :: r, hlen, fun s hs => ?_⟩
        rw [eG s hs, hn, if_neg Bool.false_ne_true, if_neg (by exact hc)]
theorem idt_stb (l : List Int) : Stb idtL l := by
  rcases name_stb l.length l (Nat.le_refl _) with ⟨v, l1, g1, f1⟩ | h
  · have eG : ∀ s, Gd s → idtL (l ++ s) = if gt (l1 ++ s) 0 = 40 then
        (if lowS (runesBytes v) = urlS then
          (if gt (wL ((l1 ++ s).drop 1)) 0 = 34 ∨ gt (wL ((l1 ++ s).drop 1)) 0 = 39 then (tkK 2 (runesBytes v), ((l1 ++ s).drop 1).drop (((l1 ++ s).drop 1).length - (wL ((l1 ++ s).drop 1)).length - 1))
            else urlL ((l1 ++ s).drop 1))
          else (tkK 2 (runesBytes v), (l1 ++ s).drop 1))
        else (tkK 1 (runesBytes v), l1 ++ s) := fun s hs => by rw [idtL, f1 s hs]
    clear f1
    match l1, g1, eG with
    | [], _, eG =>
      left
      refine ⟨tkK 1 (runesBytes v), [], Nat.zero_le _, fun s hs => ?_⟩
      rw [eG s hs, if_neg (by rcases gt0_gd hs with h | h <;> rw [List.nil_append, h] <;> decide)]
    | c :: r, g1, eG =>
      have hr : r.length ≤ l.length := by simp at g1; omega
      by_cases hc : c = 40
      · have eG2 : ∀ s, Gd s → idtL (l ++ s) = (if lowS (runesBytes v) = urlS then
            (if gt (wL (r ++ s)) 0 = 34 ∨ gt (wL (r ++ s)) 0 = 39 then (tkK 2 (runesBytes v), (r ++ s).drop ((r ++ s).length - (wL (r ++ s)).length - 1))
              else urlL (r ++ s)) else (tkK 2 (runesBytes v), r ++ s)) := fun s hs => by
          rw [eG s hs, if_pos (by exact hc)]; rfl
        by_cases hu : lowS (runesBytes v) = urlS
        · rcases w_stb r with ⟨d, q, h1, h2, h3⟩ | h
          · by_cases hd : d = 34 ∨ d = 39
            · left
              refine ⟨tkK 2 (runesBytes v), r.drop (r.length - (d :: q).length - 1), by rw [List.length_drop]; omega, fun s hs => ?_⟩
              rw [eG2 s hs, if_pos hu, h3 s, if_pos (by exact hd)]
              congr 1
              rw [List.length_append, List.length_append, show r.length + s.length - ((d :: q).length + s.length) - 1 = r.length - (d :: q).length - 1 by omega, List.drop_append_of_le_length (by omega)]
            · rcases urlL_stb r with ⟨v2, l', h4, h5⟩ | h
              · left
                refine ⟨v2, l', by omega, fun s hs => ?_⟩
                rw [eG2 s hs, if_pos hu, h3 s, if_neg (by exact hd), h5 s hs]
              · right
                rw [eG2 [32] gd_b, if_pos hu, h3, if_neg (by exact hd)]
                exact h
          · right
            rw [eG2 [32] gd_b, if_pos hu, h, if_neg (by decide)]
            have : urlL (r ++ [32]) = urlL (r ++ [32]) := rfl
            rw [url_R, h]
            rfl
        · left
          exact ⟨tkK 2 (runesBytes v), r, hr, fun s hs => by rw [eG2 s hs, if_neg hu]⟩
      · left
        exact ⟨tkK 1 (runesBytes v), c :: r, g1, fun s hs => by rw [eG s hs, if_neg (by exact hc)]⟩
  · right
    rw [idtL, h, if_neg (by decide)]
theorem numB_gd {l s : List Int} (h : Gd s) : numBL (l ++ s) = numBL (l ++ [32]) := by
  rw [numBL, numBL, nums_gd h]
  match l with
  | [] => rcases h with rfl | ⟨B, rfl⟩ <;> rfl
  | c :: r => rfl
/-- A token that begins ahead of the blank. -/
theorem tok_stb (c : Int) (r : List Int) : Stb tokL (c :: r) := by
  have hdr : ∀ s : List Int, (c :: r ++ s).drop 1 = r ++ s := fun s => rfl
  have hgt : ∀ s : List Int, gt (c :: r ++ s) 0 = c := fun s => rfl
  by_cases a0 : plI c < 9
  · left
    refine ⟨tkK (kindsL.getD (plI c) 0) (if plI c < 6 then runesBytes [c] else ⟨#[]⟩), r, by simp, fun s hs => ?_⟩
    rw [tokL, hgt, if_pos a0, hdr]
  by_cases a1 : whiteF c = true
  · rcases w_stb (c :: r) with ⟨d, q, h1, h2, h3⟩ | h
    · left
      refine ⟨tkK 13 ⟨#[]⟩, d :: q, h1, fun s hs => ?_⟩
      rw [tokL, hgt, if_neg a0, if_pos a1, h3 s]
    · right
      rw [tokL, hgt, if_neg a0, if_pos a1]
      exact h
  by_cases a2 : c = 34 ∨ c = 39
  · rcases quoL_stb c (by omega) r with ⟨v, l', h1, h2⟩ | h
    · left
      refine ⟨v, l', by simp; omega, fun s hs => ?_⟩
      rw [tokL, hgt, if_neg a0, if_neg a1, if_pos a2, hdr, h2 s hs]
    · right
      rw [tokL, hgt, if_neg a0, if_neg a1, if_pos a2, hdr]
      exact h
  cases a3 : hashL (c :: r ++ [32]) with
  | true =>
    have g : ∀ s, Gd s → tokL (c :: r ++ s) = (⟨4, runesBytes (nameL (r ++ s)).1, 0, false, false, namesL (r ++ [32])⟩, (nameL (r ++ s)).2) := fun s hs => by
      rw [tokL, hgt, if_neg a0, if_neg a1, if_neg a2, hash_gd hs, a3, if_pos rfl, hdr, names_gd hs]
    rcases name_stb r.length r (Nat.le_refl _) with ⟨v, l', h1, h2⟩ | h
    · left
      exact ⟨⟨4, runesBytes v, 0, false, false, namesL (r ++ [32])⟩, l', by simp; omega, fun s hs => by rw [g s hs, h2 s hs]⟩
    · right
      rw [g [32] gd_b]; exact h
  | false =>
  cases a4 : numBL (c :: r ++ [32]) with
  | true =>
    have g : ∀ s, Gd s → tokL (c :: r ++ s) = numL (c :: r ++ s) := fun s hs => by
      rw [tokL, hgt, if_neg a0, if_neg a1, if_neg a2, hash_gd hs, a3, if_neg Bool.false_ne_true, numB_gd hs, a4, if_pos rfl]
    rcases num_stb (c :: r) with ⟨v, l', h1, h2⟩ | h
    · left
      exact ⟨v, l', h1, fun s hs => by rw [g s hs, h2 s hs]⟩
    · right
      rw [g [32] gd_b]; exact h
  | false =>
  cases a5 : cdcL (c :: r ++ [32]) with
  | true =>
    have hl : 2 ≤ r.length := by
      rw [cdcL, Bool.and_eq_true, decide_eq_true_eq] at a5
      have h5 := a5.2
      match r, h5 with
      | [], h5 => cases h5
      | [d], h5 => cases h5
      | d :: e :: q, _ => simp
    left
    refine ⟨tkK 15 ⟨#[]⟩, r.drop 2, by rw [List.length_drop, List.length_cons]; omega, fun s hs => ?_⟩
    rw [tokL, hgt, if_neg a0, if_neg a1, if_neg a2, hash_gd hs, a3, if_neg Bool.false_ne_true, numB_gd hs, a4, if_neg Bool.false_ne_true, cdc_gd hs, a5, if_pos rfl]
    show (_, (r ++ s).drop 2) = _
    rw [List.drop_append_of_le_length hl]
  | false =>
  cases a6 : cdoL (c :: r ++ [32]) with
  | true =>
    have hl : 3 ≤ r.length := by
      rw [cdoL, Bool.and_eq_true, decide_eq_true_eq] at a6
      have h5 := a6.2
      match r, h5 with
      | [], h5 => cases h5
      | [d], h5 => cases h5
      | [d, e], h5 => cases h5
      | d :: e :: f :: q, _ => simp
    left
    refine ⟨tkK 14 ⟨#[]⟩, r.drop 3, by rw [List.length_drop, List.length_cons]; omega, fun s hs => ?_⟩
    rw [tokL, hgt, if_neg a0, if_neg a1, if_neg a2, hash_gd hs, a3, if_neg Bool.false_ne_true, numB_gd hs, a4, if_neg Bool.false_ne_true, cdc_gd hs, a5, if_neg Bool.false_ne_true, cdo_gd hs, a6, if_pos rfl]
    show (_, (r ++ s).drop 3) = _
    rw [List.drop_append_of_le_length hl]
  | false =>
  cases a7 : atL (c :: r ++ [32]) with
  | true =>
    have g : ∀ s, Gd s → tokL (c :: r ++ s) = (tkK 3 (runesBytes (nameL (r ++ s)).1), (nameL (r ++ s)).2) := fun s hs => by
      rw [tokL, hgt, if_neg a0, if_neg a1, if_neg a2, hash_gd hs, a3, if_neg Bool.false_ne_true, numB_gd hs, a4, if_neg Bool.false_ne_true, cdc_gd hs, a5, if_neg Bool.false_ne_true, cdo_gd hs, a6, if_neg Bool.false_ne_true, at_gd hs, a7, if_pos rfl, hdr]
    rcases name_stb r.length r (Nat.le_refl _) with ⟨v, l', h1, h2⟩ | h
    · left
      exact ⟨tkK 3 (runesBytes v), l', by simp; omega, fun s hs => by rw [g s hs, h2 s hs]⟩
    · right
      rw [g [32] gd_b]; exact h
  | false =>
  cases a8 : namesL (c :: r ++ [32]) with
  | true =>
    have g : ∀ s, Gd s → tokL (c :: r ++ s) = idtL (c :: r ++ s) := fun s hs => by
      rw [tokL, hgt, if_neg a0, if_neg a1, if_neg a2, hash_gd hs, a3, if_neg Bool.false_ne_true, numB_gd hs, a4, if_neg Bool.false_ne_true, cdc_gd hs, a5, if_neg Bool.false_ne_true, cdo_gd hs, a6, if_neg Bool.false_ne_true, at_gd hs, a7, if_neg Bool.false_ne_true, names_gd hs, a8, if_pos rfl]
    rcases idt_stb (c :: r) with ⟨v, l', h1, h2⟩ | h
    · left
      exact ⟨v, l', h1, fun s hs => by rw [g s hs, h2 s hs]⟩
    · right
      rw [g [32] gd_b]; exact h
  | false =>
    left
    refine ⟨tkK 9 (runesBytes [c]), r, by simp, fun s hs => ?_⟩
    rw [tokL, hgt, if_neg a0, if_neg a1, if_neg a2, hash_gd hs, a3, if_neg Bool.false_ne_true, numB_gd hs, a4, if_neg Bool.false_ne_true, cdc_gd hs, a5, if_neg Bool.false_ne_true, cdo_gd hs, a6, if_neg Bool.false_ne_true, at_gd hs, a7, if_neg Bool.false_ne_true, names_gd hs, a8, if_neg Bool.false_ne_true, hdr]
/-- Comments. -/
theorem e_stb : ∀ (n : Nat) (l : List Int), l.length ≤ n → (∃ l', l'.length ≤ l.length ∧ ∀ s, Gd s → eL (l ++ s) = 42 :: 47 :: l' ++ s) ∨ eL (l ++ [32]) = [] ∨ (∃ c l', c < 0 ∧ (c :: l').length ≤ l.length ∧ ∀ s, Gd s → eL (l ++ s) = c :: l' ++ s) := by
  intro n
  induction n with
  | zero =>
    intro l hl
    have : l = [] := List.length_eq_zero_iff.1 (by omega)
    subst this
    right; left; rfl
  | succ n ih =>
    intro l hl
    match l, hl with
    | [], _ => right; left; rfl
    | c :: r, hl =>
      have hr : r.length ≤ n := by simp at hl; omega
      by_cases h0 : c < 0
      · right; right
        exact ⟨c, r, h0, Nat.le_refl _, fun s hs => eL_no (fun h => by have := h.1; change 0 ≤ c at this; omega)⟩
      have go : (∀ s, Gd s → eL (c :: r ++ s) = eL (r ++ s)) → ((∃ l', l'.length ≤ (c :: r).length ∧ ∀ s, Gd s → eL (c :: r ++ s) = 42 :: 47 :: l' ++ s) ∨ eL (c :: r ++ [32]) = [] ∨ (∃ d l', d < 0 ∧ (d :: l').length ≤ (c :: r).length ∧ ∀ s, Gd s → eL (c :: r ++ s) = d :: l' ++ s)) := fun hg => by
        rcases ih r hr with ⟨q, h3, h4⟩ | h | ⟨d, q, h5, h3, h4⟩
        · left
          exact ⟨q, by simp; omega, fun s hs => by rw [hg s hs, h4 s hs]⟩
        · right; left
          rw [hg [32] gd_b]; exact h
        · right; right
          exact ⟨d, q, h5, by simp at h3 ⊢; omega, fun s hs => by rw [hg s hs, h4 s hs]⟩
      by_cases h1 : c = 42
      · subst h1
        match r, go with
        | [], go => exact go fun s hs => eL_go ⟨by show (0 : Int) ≤ 42; decide, .inr (by show gt s 0 ≠ 47; rcases gt0_gd hs with h | h <;> rw [h] <;> decide)⟩
        | d :: q, go =>
          by_cases h2 : d = 47
          · left
            subst h2
            exact ⟨q, by simp; omega, fun s hs => eL_no (fun h => by rcases h.2 with h | h <;> exact h rfl)⟩
          · exact go fun s hs => eL_go ⟨by show (0 : Int) ≤ 42; decide, .inr h2⟩
      · exact go fun s hs => eL_go ⟨by show 0 ≤ c; omega, .inl h1⟩
theorem c_stb : ∀ (n : Nat) (l : List Int), l.length ≤ n → (∃ l', l'.length ≤ l.length ∧ ∀ s, Gd s → cL (l ++ s) = l' ++ s) ∨ cL (l ++ [32]) = [] := by
  intro n
  induction n with
  | zero =>
    intro l hl
    have : l = [] := List.length_eq_zero_iff.1 (by omega)
    subst this
    left
    refine ⟨[], Nat.le_refl _, fun s hs => cL_no (fun h => ?_)⟩
    have h1 : gt s 0 = 47 := h.1
    rcases gt0_gd hs with h2 | h2 <;> rw [h1] at h2 <;> cases h2
  | succ n ih =>
    intro l hl
    match l, hl with
    | [], _ => exact ih [] (Nat.zero_le _)
    | [c], _ =>
      left
      refine ⟨[c], Nat.le_refl _, fun s hs => cL_no (fun h => ?_)⟩
      have h1 : gt s 0 = 42 := h.2
      rcases gt0_gd hs with h2 | h2 <;> rw [h1] at h2 <;> cases h2
    | c :: d :: r, hl =>
      by_cases hc : c = 47 ∧ d = 42
      · have hr : r.length + 2 ≤ n + 1 := by simpa using hl
        have hg : ∀ s : List Int, cL (c :: d :: r ++ s) = cL ((eL (r ++ s)).drop 2) := fun s => cL_go (l := c :: d :: r ++ s) (by exact hc)
        rcases e_stb r.length r (Nat.le_refl _) with ⟨l', h1, h2⟩ | h | ⟨e, l', h0, h1, h2⟩
        · rcases ih l' (by omega) with ⟨l2, h3, h4⟩ | h
          · left
            exact ⟨l2, by simp; omega, fun s hs => by rw [hg, h2 s hs]; exact h4 s hs⟩
          · right
            rw [hg, h2 [32] gd_b]; exact h
        · right
          rw [hg, h]; rfl
        · match l', h1, h2 with
          | [], h1, h2 =>
            right
            rw [hg, h2 [32] gd_b]; rfl
          | f :: q, h1, h2 =>
            rcases ih q (by simp at h1; omega) with ⟨l2, h3, h4⟩ | h
            · left
              exact ⟨l2, by simp at h1 ⊢; omega, fun s hs => by rw [hg, h2 s hs]; exact h4 s hs⟩
            · right
              rw [hg, h2 [32] gd_b]; exact h
      · left
        exact ⟨c :: d :: r, Nat.le_refl _, fun s hs => cL_no (by exact hc)⟩
theorem tokL_lt {l : List Int} (h : 0 < l.length) : (tokL l).2.length < l.length := by
  have h1 := tok_L l (i := 0) h
  rw [List.drop_zero] at h1
  have := tokF_gt l (i := 0) h
  rw [h1, List.length_drop]
  omega
/-- Two texts and a blank: where the first one leaves nothing open. -/
theorem toks_stb (B : List Int) (hB : whiteF (gt B 0) = false) : ∀ (n : Nat) (l : List Int), l.length ≤ n → (toksL (l ++ [32])).length = (toksL l).length + 1 → toksL (l ++ 32 :: B) = toksL (l ++ [32]) ++ toksL B := by
  intro n
  induction n with
  | zero =>
    intro l hl _
    have : l = [] := List.length_eq_zero_iff.1 (by omega)
    subst this
    have h1 := toksL_white 32 [] B rfl hB
    have h2 := toksL_white 32 [] [] rfl rfl
    show toksL ([32] ++ B) = toksL ([32] ++ []) ++ toksL B
    rw [h1, h2, toksL_nil]
    rfl
  | succ n ih =>
    intro l hl hlen
    rcases c_stb l.length l (Nat.le_refl _) with ⟨l1, h1, h2⟩ | h
    · match l1, h1, h2 with
      | [], _, h2 =>
        have e1 : toksL (l ++ [32]) = [tkK 13 ⟨#[]⟩] := by
          rw [toksL_go (by rw [h2 [32] gd_b]; decide), h2 [32] gd_b]
          show (tokL ([32] ++ [])).1 :: toksL (tokL ([32] ++ [])).2 = _
          rw [tokL_white 32 [] [] rfl rfl, toksL_nil]
        have e2 : toksL (l ++ 32 :: B) = tkK 13 ⟨#[]⟩ :: toksL B := by
          have hg : Gd (32 :: B) := .inr ⟨B, rfl⟩
          rw [toksL_go (by rw [h2 _ hg]; show ¬ (32 : Int) < 0; decide), h2 _ hg]
          show (tokL ([32] ++ B)).1 :: toksL (tokL ([32] ++ B)).2 = _
          rw [tokL_white 32 [] B rfl hB]
        rw [e1, e2]
        rfl
      | c :: r, h1, h2 =>
        by_cases h0 : c < 0
        · exfalso
          rw [toksL_stop (l := l ++ [32]) (by rw [h2 [32] gd_b]; exact h0)] at hlen
          simp at hlen
        have hgo : ∀ s, Gd s → toksL (l ++ s) = (tokL (c :: r ++ s)).1 :: toksL (tokL (c :: r ++ s)).2 := fun s hs => by
          rw [toksL_go (by rw [h2 s hs]; exact h0), h2 s hs]
        rcases tok_stb c r with ⟨t, l2, h3, h4⟩ | h
        · have hgo2 : ∀ s, Gd s → toksL (l ++ s) = t :: toksL (l2 ++ s) := fun s hs => by rw [hgo s hs, h4 s hs]
          have hlt : l2.length < (c :: r).length := by
            have h5 := tokL_lt (l := c :: r) (Nat.succ_pos _)
            have h6 := h4 [] (.inl rfl)
            rw [List.append_nil, List.append_nil] at h6
            rw [h6] at h5
            exact h5
          have e0 := hgo2 [] (.inl rfl)
          rw [List.append_nil, List.append_nil] at e0
          rw [hgo2 [32] gd_b, e0] at hlen
          rw [hgo2 _ (.inr ⟨B, rfl⟩), hgo2 [32] gd_b, ih l2 (by omega) (by simpa using hlen)]
          rfl
        · exfalso
          have e0 := hgo [] (.inl rfl)
          rw [List.append_nil, List.append_nil] at e0
          rw [hgo [32] gd_b, h, toksL_nil, e0] at hlen
          simp at hlen
    · exfalso
      rw [toksL_stop (l := l ++ [32]) (by rw [h]; decide)] at hlen
      simp at hlen
end
section
theorem toksF_len (L : List Int) : (toksF L).length ≤ L.length := by
  obtain ⟨r, j, h1, h2, h3, h4, h5⟩ := goAt_end (tStep_goes L) L.length 0 (Nat.zero_le _) (by omega)
  rw [toksF]
  omega
theorem toks_len (s : ByteArray) : (toks s).length ≤ s.size := Nat.le_trans (toksF_len _) (readL_len s)
end
end Go.Proofs.YtbjinibmkkmhkaaDoor
