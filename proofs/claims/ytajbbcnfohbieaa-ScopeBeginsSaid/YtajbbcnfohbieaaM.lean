/- The engine, part 20: calls that are handed own memory (pointers to boxes, own rows). -/
import Derived.Test.YtajbbcnfohbieaaY
namespace Go.Proofs.Ytajbbcnfohbieaa
open Go Go.RowKit

mutual
def AV.ren (s : Nat → Nat) : AV → AV
  | .ptr i o => .ptr (s i) o
  | .row i v => .row (s i) v
  | .eptr i v j o => .eptr (s i) v j o
  | .dptr l => .dptr (AV.rens s l)
  | .agg l => .agg (AV.rens s l)
  | .tup l => .tup (AV.rens s l)
  | .cnd c x => .cnd c (x.ren s)
  | .cl f l => .cl f (AV.rens s l)
  | .alt x y => .alt (x.ren s) (y.ren s)
  | .any => .any
  | .val v => .val v
  | .sl k es => .sl k es
  | .ub p q => .ub p q
  | .pr p => .pr p
  | .vw i v p => .vw (s i) v p
def AV.rens (s : Nat → Nat) : List AV → List AV
  | [] => []
  | x :: r => x.ren s :: AV.rens s r
end
def AB.ren (s : Nat → Nat) : AB → AB
  | .box e l => .box e (AV.rens s l)
  | .gone => .gone
  | .row v e k es => .row v e k es
  | .iter t p => .iter t p
  | .rowo v e k pre l => .rowo v e k pre (AV.rens s l)
theorem AB.ren_isRow (s : Nat → Nat) (ab : AB) : (ab.ren s).isRow = ab.isRow := by cases ab <;> rfl
theorem AB.ren_alive (s : Nat → Nat) (ab : AB) : (ab.ren s).alive = ab.alive := by cases ab <;> rfl
theorem AB.ren_rowOk (s : Nat → Nat) (ab : AB) (ver : Nat) (p : Nat → Nat → Prop) : (ab.ren s).rowOk ver p ↔ ab.rowOk ver p := by cases ab <;> exact Iff.rfl
theorem EvE.ren (s : Nat → Nat) {b b' : Option (Nat × Nat)} {x y : AB} (h : EvE b b' x y) : EvE b b' (x.ren s) (y.ren s) := by
  cases x <;> cases y <;> first | exact h | exact h.elim | exact (nomatch h.1) | exact ⟨rfl, h.2⟩

section
variable {M0 M : List AB} {β0 β : Env} {w : World} {imm imm' : Nat → Prop} {s : Nat → Nat} {n : Nat}
mutual
theorem ren_to (hM : ∀ j ab, M0[j]? = some ab → M[s j]? = some (ab.ren s) ∧ β (s j) = β0 j) (hi : ∀ b, imm b → imm' b) : ∀ (x : AV) (v : Value), AVsat M0 β0 w imm x v → AVsat M β w imm' (x.ren s) v
  | .any, _, _ => trivial
  | .val _, _, hx => hx
  | .sl k es, v, hx => DenC.mono hi (fun _ _ _ => rfl) (.sl k es) [v] hx
  | .ptr i off, v, ⟨g, c, h1, h2, ab, h3, h4⟩ => ⟨g, c, (hM i ab h3).2.trans h1, h2, ab.ren s, (hM i ab h3).1, by rw [AB.ren_isRow]; exact h4⟩
  | .row i ver, v, ⟨ab, h1, h2⟩ => ⟨ab.ren s, (hM i ab h1).1, by rw [AB.ren_rowOk, (hM i ab h1).2]; exact h2⟩
  | .eptr i ver j off, v, ⟨ab, h1, h2⟩ => ⟨ab.ren s, (hM i ab h1).1, by rw [AB.ren_rowOk, (hM i ab h1).2]; exact h2⟩
  | .dptr l, v, ⟨g, off, cs, h1, h2, h3, h4⟩ => ⟨g, off, cs, h1, hi _ h2, rens_to hM hi l cs h3, h4⟩
  | .agg l, v, ⟨cs, h1, h2⟩ => ⟨cs, h1, rens_to hM hi l _ h2⟩
  | .tup l, v, ⟨cs, h1, h2⟩ => ⟨cs, h1, rens_to hM hi l _ h2⟩
  | .cnd c x, v, ⟨h1, h2⟩ => ⟨fun hc => ren_to hM hi x v (h1 hc), h2⟩
  | .cl f l, v, ⟨cs, h1, h2⟩ => ⟨cs, h1, rens_to hM hi l _ h2⟩
  | .ub _ _, _, hx => hx
  | .pr _, _, hx => hx
  | .vw i ver p, v, ⟨ab, h1, h2⟩ => ⟨ab.ren s, (hM i ab h1).1, by rw [AB.ren_rowOk, (hM i ab h1).2]; exact h2⟩
  | .alt x y, v, hx => hx.elim (fun k => .inl (ren_to hM hi x v k)) (fun k => .inr (ren_to hM hi y v k))
theorem rens_to (hM : ∀ j ab, M0[j]? = some ab → M[s j]? = some (ab.ren s) ∧ β (s j) = β0 j) (hi : ∀ b, imm b → imm' b) : ∀ (l : List AV) (vs : List Value), AVsats M0 β0 w imm l vs → AVsats M β w imm' (AV.rens s l) vs
  | [], _, hx => hx
  | x :: l, _, ⟨v, r, h1, h2, h3⟩ => ⟨v, r, h1, ren_to hM hi x v h2, rens_to hM hi l r h3⟩
end
mutual
theorem ren_from (hM : ∀ j ab, M0[j]? = some ab → M[s j]? = some (ab.ren s) ∧ β (s j) = β0 j) (hn : M0.length = n) (hi : ∀ b, imm b → imm' b) : ∀ (x : AV) (v : Value), x.under n = true → AVsat M β w imm (x.ren s) v → AVsat M0 β0 w imm' x v
  | .any, _, _, _ => trivial
  | .val _, _, _, hx => hx
  | .sl k es, v, _, hx => DenC.mono hi (fun _ _ _ => rfl) (.sl k es) [v] hx
  | .ptr i off, v, hb, ⟨g, c, h1, h2, ab, h3, h4⟩ => by
    rw [AV.under, Nat.blt_eq, ← hn] at hb
    have h5 : M0[i]? = some M0[i] := List.getElem?_eq_getElem hb
    obtain ⟨h6, h7⟩ := hM i _ h5
    rw [h6] at h3
    cases h3
    rw [AB.ren_isRow] at h4
    exact ⟨g, c, h7.symm.trans h1, h2, _, h5, h4⟩
  | .row i ver, v, hb, ⟨ab, h1, h2⟩ => by
    rw [AV.under, Nat.blt_eq, ← hn] at hb
    have h5 : M0[i]? = some M0[i] := List.getElem?_eq_getElem hb
    obtain ⟨h6, h7⟩ := hM i _ h5
    rw [h6] at h1
    cases h1
    rw [AB.ren_rowOk, h7] at h2
    exact ⟨_, h5, h2⟩
  | .eptr i ver j off, v, hb, ⟨ab, h1, h2⟩ => by
    rw [AV.under, Nat.blt_eq, ← hn] at hb
    have h5 : M0[i]? = some M0[i] := List.getElem?_eq_getElem hb
    obtain ⟨h6, h7⟩ := hM i _ h5
    rw [h6] at h1
    cases h1
    rw [AB.ren_rowOk, h7] at h2
    exact ⟨_, h5, h2⟩
  | .dptr l, v, hb, ⟨g, off, cs, h1, h2, h3, h4⟩ => ⟨g, off, cs, h1, hi _ h2, rens_from hM hn hi l cs (by rw [AV.under] at hb; exact hb) h3, h4⟩
  | .agg l, v, hb, ⟨cs, h1, h2⟩ => ⟨cs, h1, rens_from hM hn hi l _ (by rw [AV.under] at hb; exact hb) h2⟩
  | .tup l, v, hb, ⟨cs, h1, h2⟩ => ⟨cs, h1, rens_from hM hn hi l _ (by rw [AV.under] at hb; exact hb) h2⟩
  | .cnd c x, v, hb, ⟨h1, h2⟩ => ⟨fun hc => ren_from hM hn hi x v (by rw [AV.under] at hb; exact hb) (h1 hc), h2⟩
  | .cl f l, v, hb, ⟨cs, h1, h2⟩ => ⟨cs, h1, rens_from hM hn hi l _ (by rw [AV.under] at hb; exact hb) h2⟩
  | .ub _ _, _, _, hx => hx
  | .pr _, _, _, hx => hx
  | .vw i ver p, v, hb, ⟨ab, h1, h2⟩ => by
    rw [AV.under, Nat.blt_eq, ← hn] at hb
    have h5 : M0[i]? = some M0[i] := List.getElem?_eq_getElem hb
    obtain ⟨h6, h7⟩ := hM i _ h5
    rw [h6] at h1
    cases h1
    rw [AB.ren_rowOk, h7] at h2
    exact ⟨_, h5, h2⟩
  | .alt x y, v, hb, hx => by
    rw [AV.under, Bool.and_eq_true] at hb
    exact hx.elim (fun k => .inl (ren_from hM hn hi x v hb.1 k)) (fun k => .inr (ren_from hM hn hi y v hb.2 k))
theorem rens_from (hM : ∀ j ab, M0[j]? = some ab → M[s j]? = some (ab.ren s) ∧ β (s j) = β0 j) (hn : M0.length = n) (hi : ∀ b, imm b → imm' b) : ∀ (l : List AV) (vs : List Value), AV.unders n l = true → AVsats M β w imm (AV.rens s l) vs → AVsats M0 β0 w imm' l vs
  | [], _, _, hx => hx
  | x :: l, _, hb, ⟨v, r, h1, h2, h3⟩ => by
    rw [AV.unders, Bool.and_eq_true] at hb
    exact ⟨v, r, h1, ren_from hM hn hi x v hb.1 h2, rens_from hM hn hi l r hb.2 h3⟩
end
theorem ent_to (hM : ∀ j ab, M0[j]? = some ab → M[s j]? = some (ab.ren s) ∧ β (s j) = β0 j) (hi : ∀ b, imm b → imm' b) {b : Option (Nat × Nat)} {ab : AB} (h : EntSat M0 β0 w imm b ab) : EntSat M β w imm' b (ab.ren s) := by
  cases ab with
  | gone => trivial
  | box e l => obtain ⟨g, c, cs, h1, h2, h3⟩ := h; exact ⟨g, c, cs, h1, h2, rens_to hM hi _ _ h3⟩
  | iter t p => exact h
  | rowo v e k pre l =>
    obtain ⟨q1, q2, g, cap, cs, q3, q4, q5, q6, q7, c1, c2, c3, q8, q9, q10⟩ := h
    have q11 := rens_to hM hi _ _ q10
    exact ⟨q1, by have e1 := q10.len; have e2 := q11.len; omega, g, cap, cs, q3, q4, q5, q6, q7, c1, c2, c3, q8, DenCs.mono hi (fun _ _ _ => rfl) _ _ q9, q11⟩
  | row v e k es =>
    refine ⟨h.1, ?_⟩
    rcases h.2 with h0 | ⟨g, cap, cs, h1, h2, h3, h4, h5, h6⟩
    · exact .inl h0
    · exact .inr ⟨g, cap, cs, h1, h2, h3, h4, h5, DenCs.mono hi (fun _ _ _ => rfl) _ _ h6⟩
theorem ent_from (hM : ∀ j ab, M0[j]? = some ab → M[s j]? = some (ab.ren s) ∧ β (s j) = β0 j) (hn : M0.length = n) (hi : ∀ b, imm b → imm' b) {b : Option (Nat × Nat)} {ab : AB} (hu : ab.under n = true) (h : EntSat M β w imm b (ab.ren s)) : EntSat M0 β0 w imm' b ab := by
  cases ab with
  | gone => trivial
  | box e l => obtain ⟨g, c, cs, h1, h2, h3⟩ := h; exact ⟨g, c, cs, h1, h2, rens_from hM hn hi _ _ hu h3⟩
  | iter t p => exact h
  | rowo v e k pre l =>
    obtain ⟨q1, q2, g, cap, cs, q3, q4, q5, q6, q7, c1, c2, c3, q8, q9, q10⟩ := h
    have q11 := rens_from hM hn hi _ _ hu q10
    exact ⟨q1, by have e1 := q10.len; have e2 := q11.len; omega, g, cap, cs, q3, q4, q5, q6, q7, c1, c2, c3, q8, DenCs.mono hi (fun _ _ _ => rfl) _ _ q9, q11⟩
  | row v e k es =>
    refine ⟨h.1, ?_⟩
    rcases h.2 with h0 | ⟨g, cap, cs, h1, h2, h3, h4, h5, h6⟩
    · exact .inl h0
    · exact .inr ⟨g, cap, cs, h1, h2, h3, h4, h5, DenCs.mono hi (fun _ _ _ => rfl) _ _ h6⟩
end

/-- A call that is handed own memory: what it was, what it is behind the call. -/
def MCalls (P : Program) (f : FuncId) (M0 : List AB) (args : List AV) (M1 : List AB) (res : AV) : Prop :=
  ∀ (S : Nat → Prop) (B : Nat) (β : Env) (w : World) (vs : Array Value), MemSat S B M0 β w → AVsats M0 β w (immOf S B M0 β w) args vs.toList →
    Calls P f vs w fun e w' => ∃ v β', e = .returned v ∧ Ev M0 β w M1 β' w' ∧ MemSat S B M1 β' w' ∧ AVsat M1 β' w' (immOf S B M1 β' w') res v

def setAll : List AB → List Nat → List AB → List AB
  | M, i :: is, ab :: r => setAll (M.set i ab) is r
  | M, _, _ => M
theorem setAll_ne : ∀ {σ : List Nat} {M L : List AB} {i : Nat}, i ∉ σ → (setAll M σ L)[i]? = M[i]?
  | [], _, _, _, _ => by rw [setAll]; simp
  | _ :: _, _, [], _, _ => by rw [setAll]; simp
  | j :: σ, M, ab :: L, i, h => by
    simp only [List.mem_cons, not_or] at h
    rw [setAll, setAll_ne h.2, List.getElem?_set_ne (Ne.symm h.1)]
theorem setAll_len : ∀ {σ : List Nat} {M L : List AB}, (setAll M σ L).length = M.length
  | [], _, _ => by rw [setAll]; simp
  | _ :: _, _, [] => by rw [setAll]; simp
  | j :: σ, M, ab :: L => by rw [setAll, setAll_len, List.length_set]
theorem setAll_at : ∀ {σ : List Nat} {M L : List AB} {j i : Nat}, σ.Nodup → σ.length = L.length → σ[j]? = some i → i < M.length → (setAll M σ L)[i]? = L[j]?
  | [], _, _, _, _, _, _, h, _ => by simp at h
  | _ :: _, _, [], _, _, _, h, _, _ => by simp at h
  | i0 :: σ, M, ab :: L, 0, i, hn, hl, h, hi => by
    simp only [List.getElem?_cons_zero, Option.some.injEq] at h
    subst h
    rw [setAll, setAll_ne (List.nodup_cons.1 hn).1, List.getElem?_set_self hi]
    rfl
  | i0 :: σ, M, ab :: L, j + 1, i, hn, hl, h, hi => by
    rw [setAll, setAll_at (List.nodup_cons.1 hn).2 (by simpa using hl) (by simpa using h) (by rw [List.length_set]; exact hi)]
    rfl
/-- The callee's memory stands in the caller's. -/
def EmbM (M : List AB) (s : Nat → Nat) : List Nat → List AB → Prop
  | [], [] => True
  | i :: is, ab :: r => M[i]? = some (ab.ren s) ∧ EmbM M s is r
  | _, _ => False
theorem EmbM.at_ {M : List AB} {s : Nat → Nat} : ∀ {σ : List Nat} {L : List AB} {j : Nat} {ab : AB}, EmbM M s σ L → L[j]? = some ab → ∃ i, σ[j]? = some i ∧ M[i]? = some (ab.ren s)
  | [], [], _, _, _, h => by simp at h
  | i :: is, ab :: r, 0, ab', h, hj => by cases hj; exact ⟨i, rfl, h.1⟩
  | i :: is, ab :: r, j + 1, ab', h, hj => by
    obtain ⟨i', h1, h2⟩ := EmbM.at_ (σ := is) (L := r) (j := j) h.2 (by simpa using hj)
    exact ⟨i', by simpa using h1, h2⟩
  | [], _ :: _, _, _, h, _ => h.elim
  | _ :: _, [], _, _, h, _ => h.elim
theorem EmbM.len {M : List AB} {s : Nat → Nat} : ∀ {σ : List Nat} {L : List AB}, EmbM M s σ L → σ.length = L.length
  | [], [], _ => rfl
  | i :: is, ab :: r, h => by simp [EmbM.len h.2]
  | [], _ :: _, h => h.elim
  | _ :: _, [], h => h.elim
def nth (σ : List Nat) (j : Nat) : Nat := σ.getD j 0
theorem nth_of {σ : List Nat} {j i : Nat} (h : σ[j]? = some i) : nth σ j = i := by simp [nth, h]

section
variable {P : Program} {o : Oper} {M : List AB} {ρ : Operand → AV}
theorem astep_mcall {f : FuncId} {xs : Array Operand} {ts : Array TypeId} {M0 M1 : List AB} {cargs : List AV} {res : AV} (σ : List Nat) (ho : o.op = .call { callee := .value (.func f), args := xs, argTypes := ts }) (hcall : Callable P f) (hc : MCalls P f M0 cargs M1 res)
    (hemb : EmbM M (nth σ) σ M0) (hnd : σ.Nodup) (hargs : Subs (xs.toList.map ρ) (AV.rens (nth σ) cargs)) (hn : M1.length = M0.length)
    (hu : (AV.unders σ.length cargs && M0.all (AB.under σ.length)) = true) : AStep P o M ρ (setAll M σ (M1.map (AB.ren (nth σ)))) (res.ren (nth σ)) := by
  intro S B β a w hm hs K Q hK
  rw [Bool.and_eq_true] at hu
  obtain ⟨hu1, hu2⟩ := hu
  have hlen := hemb.len
  unfold Oper.wp
  rw [run_call hcall ho]
  have h1 := map_sat (l := xs.toList) fun x hx => hs x (mem_call ho hx)
  have h2 := hargs.sat h1
  -- the callee's frame
  have hM : ∀ j ab, M0[j]? = some ab → M[nth σ j]? = some (ab.ren (nth σ)) ∧ β (nth σ j) = (fun j => β (nth σ j)) j := fun j ab hj => by
    obtain ⟨i, k1, k2⟩ := hemb.at_ hj
    refine ⟨?_, rfl⟩
    rw [nth_of k1]
    exact k2
  have hinj : ∀ j k, j < σ.length → k < σ.length → nth σ j = nth σ k → j = k := fun j k hj hk e => by
    have e1 := nth_of (List.getElem?_eq_getElem hj)
    have e2 := nth_of (List.getElem?_eq_getElem hk)
    rw [e1, e2] at e
    exact (List.getElem_inj hnd).1 e
  have hmem : ∀ i, i ∈ σ → ∃ j, j < σ.length ∧ nth σ j = i := fun i hi => by
    obtain ⟨j, hj, e⟩ := List.getElem_of_mem hi
    exact ⟨j, hj, nth_of (by rw [List.getElem?_eq_getElem hj, e])⟩
  have hin : ∀ j, j < σ.length → nth σ j ∈ σ ∧ σ[j]? = some (nth σ j) := fun j hj => by
    have e := nth_of (List.getElem?_eq_getElem hj)
    rw [e]
    exact ⟨List.getElem_mem hj, List.getElem?_eq_getElem hj⟩
  let β0 : Env := fun j => β (nth σ j)
  have hlive0 : ∀ b, live M0 β0 b → live M β b := fun b ⟨j, ab, c, k1, k2, k3⟩ => ⟨nth σ j, ab.ren (nth σ), c, (hM j ab k1).1, by rw [AB.ren_alive]; exact k2, k3⟩
  let S' : Nat → Prop := fun b => immOf S B M β w b ∨ live M0 β0 b
  have hi0 : ∀ b, immOf S B M β w b → immOf S' w.heap.size M0 β0 w b := fun b hb => ⟨.inl (.inl hb), hb.2.1, fun hl => hb.2.2 (hlive0 b hl)⟩
  have hm0 : MemSat S' w.heap.size M0 β0 w := by
    refine ⟨Nat.le_refl _, fun j k ab ab' g c c' k1 k2 k3 l1 l2 l3 => ?_, fun j ab hj => ?_, fun b hl => .inl (.inr hl)⟩
    · have e := hm.inj _ _ _ _ g c c' (hM j ab k1).1 (by rw [AB.ren_alive]; exact k2) k3 (hM k ab' l1).1 (by rw [AB.ren_alive]; exact l2) l3
      exact hinj j k (by rw [hlen]; exact (List.getElem?_eq_some_iff.1 k1).1) (by rw [hlen]; exact (List.getElem?_eq_some_iff.1 l1).1) e
    · exact ent_from hM hlen.symm hi0 (List.all_eq_true.1 hu2 ab (List.mem_of_getElem? hj)) (hm.ent _ _ (hM j ab hj).1)
  have hargs0 := rens_from hM hlen.symm hi0 cargs _ hu1 h2
  refine (hc S' w.heap.size β0 w (xs.map a.eval) hm0 (by simpa using hargs0)).mono ?_
  rintro e w' ⟨v, β1, rfl, hE, hm1, hv⟩
  -- the caller's frame behind the call
  let M' := setAll M σ (M1.map (AB.ren (nth σ)))
  let β' : Env := fun i => if i ∈ σ then β1 (σ.idxOf i) else β i
  have hβin : ∀ j, j < σ.length → β' (nth σ j) = β1 j := fun j hj => by
    have e := nth_of (List.getElem?_eq_getElem hj)
    have h3 : σ.idxOf σ[j] = j := hnd.idxOf_getElem j hj
    show (if nth σ j ∈ σ then β1 (σ.idxOf (nth σ j)) else β (nth σ j)) = β1 j
    rw [if_pos (hin j hj).1, e, h3]
  have hβout : ∀ i, i ∉ σ → β' i = β i := fun i hi => if_neg hi
  have hMlt : ∀ j, j < σ.length → nth σ j < M.length := fun j hj => by
    have h3 : M0[j]? = some M0[j] := List.getElem?_eq_getElem (by rw [← hlen]; exact hj)
    exact (List.getElem?_eq_some_iff.1 (hM j _ h3).1).1
  have hMin : ∀ j, j < σ.length → M'[nth σ j]? = (M1[j]?).map (AB.ren (nth σ)) := fun j hj => by
    show (setAll M σ (M1.map (AB.ren (nth σ))))[nth σ j]? = _
    rw [setAll_at hnd (by rw [List.length_map, hn, hlen]) (hin j hj).2 (hMlt j hj), List.getElem?_map]
  have hMout : ∀ i, i ∉ σ → M'[i]? = M[i]? := fun i hi => setAll_ne hi
  have hM1 : ∀ j ab, M1[j]? = some ab → M'[nth σ j]? = some (ab.ren (nth σ)) ∧ β' (nth σ j) = β1 j := fun j ab hj => by
    have hlt : j < σ.length := by rw [hlen, ← hn]; exact (List.getElem?_eq_some_iff.1 hj).1
    exact ⟨by rw [hMin j hlt, hj]; rfl, hβin j hlt⟩
  -- who is alive
  have hsplit : ∀ i ab c b, M'[i]? = some ab → ab.alive = true → β' i = some (b, c) → (∃ j ab1, j < σ.length ∧ nth σ j = i ∧ M1[j]? = some ab1 ∧ ab = ab1.ren (nth σ) ∧ ab1.alive = true ∧ β1 j = some (b, c)) ∨ (i ∉ σ ∧ M[i]? = some ab ∧ β i = some (b, c)) := by
    intro i ab c b k1 k2 k3
    by_cases hi : i ∈ σ
    · obtain ⟨j, hj, rfl⟩ := hmem i hi
      rw [hMin j hj] at k1
      rw [hβin j hj] at k3
      obtain ⟨ab1, k4, k5⟩ := Option.map_eq_some_iff.1 k1
      exact .inl ⟨j, ab1, hj, rfl, k4, k5.symm, by rw [← k5, AB.ren_alive] at k2; exact k2, k3⟩
    · rw [hMout i hi] at k1
      rw [hβout i hi] at k3
      exact .inr ⟨hi, k1, k3⟩
  have hnot0 : ∀ i ab c b, i ∉ σ → M[i]? = some ab → ab.alive = true → β i = some (b, c) → ¬ live M0 β0 b := by
    rintro i ab c b hi k1 k2 k3 ⟨j, ab0, c0, l1, l2, l3⟩
    have hj : j < σ.length := by rw [hlen]; exact (List.getElem?_eq_some_iff.1 l1).1
    have := hm.inj i (nth σ j) ab _ b c c0 k1 k2 k3 (hM j ab0 l1).1 (by rw [AB.ren_alive]; exact l2) l3
    exact hi (this ▸ (hin j hj).1)
  have hEv : Ev M β w M' β' w' := by
    refine ⟨hE.os, hE.tape, hE.output, hE.size, fun b hb hl => hE.keep b hb fun x => hl (hlive0 b x), fun b => ?_, fun i ab hi => ?_⟩
    · rintro ⟨i, ab, c, k1, k2, k3⟩
      rcases hsplit i ab c b k1 k2 k3 with ⟨j, ab1, hj, _, l1, _, l2, l3⟩ | ⟨_, l1, l2⟩
      · rcases hE.new b ⟨j, ab1, c, l1, l2, l3⟩ with h3 | h3
        · exact .inl (hlive0 b h3)
        · exact .inr h3
      · exact .inl ⟨i, ab, c, l1, k2, l2⟩
    · by_cases his : i ∈ σ
      · obtain ⟨j, hj, rfl⟩ := hmem i his
        have h3 : M0[j]? = some M0[j] := List.getElem?_eq_getElem (by rw [← hlen]; exact hj)
        obtain ⟨h4, _⟩ := hM j _ h3
        rw [h4] at hi; cases hi
        obtain ⟨ab1, h5, h6⟩ := hE.ent j _ h3
        obtain ⟨h7, h8⟩ := hM1 j ab1 h5
        exact ⟨_, h7, by rw [h8]; exact h6.ren _⟩
      · exact ⟨ab, by rw [hMout i his]; exact hi, by rw [hβout i his]; exact EvE.refl _ _⟩
  have himm : ∀ b, immOf S' w.heap.size M1 β1 w' b → immOf S B M' β' w' b := by
    rintro b ⟨k1, k2, k3⟩
    refine ⟨?_, k2, ?_⟩
    · rcases k1 with (h3 | h3) | h3
      · exact h3.1
      · exact hm.own b (hlive0 b h3)
      · exact .inr (Nat.le_trans hm.lo h3)
    · rintro ⟨i, ab, c, l1, l2, l3⟩
      rcases hsplit i ab c b l1 l2 l3 with ⟨j, ab1, hj, _, p1, _, p2, p3⟩ | ⟨p0, p1, p2⟩
      · exact k3 ⟨j, ab1, c, p1, p2, p3⟩
      · have hl : live M β b := ⟨i, ab, c, p1, l2, p2⟩
        rcases k1 with (h3 | h3) | h3
        · exact h3.2.2 hl
        · exact hnot0 i ab c b p0 p1 l2 p2 h3
        · have := hm.lt hl; omega
  have hmem' : MemSat S B M' β' w' := by
    refine ⟨Nat.le_trans hm.lo hE.size, fun i k ab ab' g c c' k1 k2 k3 l1 l2 l3 => ?_, fun i ab hi => ?_, fun b hl => (hEv.new b hl).elim (hm.own b) (fun hb => .inr (Nat.le_trans hm.lo hb))⟩
    · have cross : ∀ (j : Nat) (ab1 : AB) (c c' : Nat) (i : Nat) (ab : AB), M1[j]? = some ab1 → ab1.alive = true → β1 j = some (g, c) → i ∉ σ → M[i]? = some ab → ab.alive = true → β i = some (g, c') → False := by
        intro j ab1 c c' i ab p1 p2 p3 q0 q1 q2 q3
        rcases hE.new g ⟨j, ab1, c, p1, p2, p3⟩ with h3 | h3
        · exact hnot0 i ab c' g q0 q1 q2 q3 h3
        · have := hm.lt ⟨i, ab, c', q1, q2, q3⟩; omega
      rcases hsplit i ab c g k1 k2 k3 with ⟨j, ab1, hj, rfl, p1, _, p2, p3⟩ | ⟨p0, p1, p2⟩ <;> rcases hsplit k ab' c' g l1 l2 l3 with ⟨j', ab1', hj', rfl, q1, _, q2, q3⟩ | ⟨q0, q1, q2⟩
      · rw [hm1.inj j j' ab1 ab1' g c c' p1 p2 p3 q1 q2 q3]
      · exact (cross j ab1 c c' k ab' p1 p2 p3 q0 q1 l2 q2).elim
      · exact (cross j' ab1' c' c i ab q1 q2 q3 p0 p1 k2 p2).elim
      · exact hm.inj i k ab ab' g c c' p1 k2 p2 q1 l2 q2
    · by_cases his : i ∈ σ
      · obtain ⟨j, hj, rfl⟩ := hmem i his
        rw [hMin j hj] at hi
        obtain ⟨ab1, h5, h6⟩ := Option.map_eq_some_iff.1 hi
        rw [← h6, hβin j hj]
        exact ent_to hM1 himm (hm1.ent j ab1 h5)
      · rw [hMout i his] at hi
        rw [hβout i his]
        refine EntSat.ev hEv (fun g c hg ha => hE.keep g (hm.lt ⟨i, ab, c, hi, ha, hg⟩) (hnot0 i ab c g his hi ha hg)) (hm.ent i ab hi)
  exact hK v β' w' hEv hmem' (ren_to hM1 himm res v hv)
end

/-- What a body hands back that was handed own memory. -/
inductive RetW (P : Program) (s : AS) (n : Nat) : ResultVar → AV → Prop
  | tmp {t : Tmp} {x : AV} (h : Sub (look s.F t) x) (hf : (look s.F t).under n = true) : RetW P s n (.tmp t) x
  | row {t : Tmp} {i ver e k : Nat} {es : List D} (hp : look s.F t = .row i ver) (hM : s.M[i]? = some (.row ver e k es)) (hi : Nat.ble n i = true) : RetW P s n (.tmp t) (.sl k es)
inductive RetWs (P : Program) (s : AS) (n : Nat) : List ResultVar → List AV → Prop
  | nil : RetWs P s n [] []
  | cons {r : ResultVar} {rs : List ResultVar} {x : AV} {xs : List AV} (h : RetW P s n r x) (hs : RetWs P s n rs xs) : RetWs P s n (r :: rs) (x :: xs)
def retM (P : Program) (fn : Func) (n : Nat) (M1 : List AB) (res : AV) (e : Exit) (s : AS) : Prop :=
  (e = .normal ∨ e = .ret) ∧ s.M.take n = M1 ∧ M1.all (AB.under n) = true ∧ ∃ xs, RetWs P s n fn.results.toList xs ∧ Sub (tupOf xs) res

section
variable {P : Program} {S : Nat → Prop} {B n : Nat} {s : AS} {a : Act} {w : World} {β : Env}
theorem imm_cut {M : List AB} (b : Nat) (h : immOf S B M β w b) : immOf S B (M.take n) β w b := ⟨h.1, h.2.1, fun hl => h.2.2 (live_cut hl)⟩
theorem mem_cut {M : List AB} (hm : MemSat S B M β w) (hu : (M.take n).all (AB.under n) = true) : MemSat S B (M.take n) β w := by
  have old : ∀ {i ab}, (M.take n)[i]? = some ab → M[i]? = some ab := fun {i ab} h => by
    rw [List.getElem?_take] at h
    split at h
    · exact h
    · cases h
  refine ⟨hm.lo, fun i j ab ab' g c c' k1 k2 k3 k4 => hm.inj i j ab ab' g c c' (old k1) k2 k3 (old k4), fun i ab hi => ?_, fun b hl => hm.own b (live_cut hl)⟩
  have he := hm.ent i ab (old hi)
  have hbl : ab.under n = true := List.all_eq_true.1 hu ab (List.mem_of_getElem? hi)
  cases ab with
  | gone => trivial
  | iter _ _ => exact he
  | rowo v e k pre l =>
    obtain ⟨q1, q2, g, cap, cs, q3, q4, q5, q6, q7, c1, c2, c3, q8, q9, q10⟩ := he
    exact ⟨q1, q2, g, cap, cs, q3, q4, q5, q6, q7, c1, c2, c3, q8, DenCs.mono imm_cut (fun _ _ _ => rfl) _ _ q9, AVsats.cut imm_cut _ _ hbl q10⟩
  | box e cells =>
    obtain ⟨g, c, cs, k1, k2, k3⟩ := he
    exact ⟨g, c, cs, k1, k2, AVsats.cut imm_cut _ _ hbl k3⟩
  | row v e k es =>
    refine ⟨he.1, ?_⟩
    rcases he.2 with h0 | ⟨g, cap, cs, k1, k2, k3, k4, k5, k6⟩
    · exact .inl h0
    · exact .inr ⟨g, cap, cs, k1, k2, k3, k4, k5, DenCs.mono imm_cut (fun _ _ _ => rfl) _ _ k6⟩
theorem run_retW (hm : MemSat S B s.M β w) (hF : ∀ d, AVsat s.M β w (immOf S B s.M β w) (look s.F d) (a.tmps.getD d undef)) {r : ResultVar} {x : AV} (h : RetW P s n r x) :
    ∃ v, (resSem a.tmps r).run P w = .ok v w ∧ AVsat (s.M.take n) β w (immOf S B (s.M.take n) β w) x v := by
  cases h with
  | tmp h hf => exact ⟨_, rfl, h _ _ _ _ _ (AVsat.cut imm_cut _ _ hf (hF _))⟩
  | @row t i ver e k es hp hM hi =>
    have h1 := hF t
    rw [hp] at h1
    have hi := Nat.le_of_ble_eq_true hi
    refine ⟨_, rfl, ?_⟩
    obtain ⟨ab, h2, h3⟩ := h1
    rw [hM] at h2; cases h2
    have h3 := h3.2 rfl
    obtain ⟨hw, ⟨h4, rfl⟩ | ⟨g, cap, cs, h4, h5, h6, h7, h8, h9⟩⟩ := hm.ent i _ hM
    · rw [h4] at h3
      exact ⟨none, 0, 0, by rw [h3]; rfl, rfl, Nat.le_refl _, Nat.zero_le _, hw, fun h => absurd h (by omega)⟩
    · rw [h4] at h3
      refine ⟨some ⟨g, 0, none⟩, es.length, cap, by rw [h3]; rfl, rfl, h6, h7, hw, fun _ => ⟨g, 0, _, rfl, ⟨hm.own g ⟨i, _, cap, hM, rfl, h4⟩, heap_lt h5.choose_spec.1, ?_⟩, DenCs.mono imm_cut (fun _ _ _ => rfl) _ _ h9, fun j u hj => ?_⟩⟩
      · rintro ⟨j, ab', c, k1, k2, k3⟩
        rw [List.getElem?_take] at k1
        split at k1
        · have := hm.inj i j _ _ g cap c hM rfl h4 k1 k2 k3
          omega
        · cases k1
      · rw [List.getElem?_take] at hj
        split at hj
        · rw [Nat.zero_add, h5.cell]
          simpa using hj
        · cases hj
theorem run_retWs (hm : MemSat S B s.M β w) (hF : ∀ d, AVsat s.M β w (immOf S B s.M β w) (look s.F d) (a.tmps.getD d undef)) {rs : List ResultVar} {xs : List AV} (h : RetWs P s n rs xs) :
    ∃ vs, (rs.mapM (resSem a.tmps)).run P w = .ok vs w ∧ AVsats (s.M.take n) β w (immOf S B (s.M.take n) β w) xs vs := by
  induction h with
  | nil => exact ⟨[], by simp, rfl⟩
  | cons h hs ih =>
    obtain ⟨v, h1, h2⟩ := run_retW hm hF h
    obtain ⟨vs, h3, h4⟩ := ih
    exact ⟨v :: vs, by simp [List.mapM_cons, h1, h3], v, vs, rfl, h2, h4⟩
end
theorem argF_satM {M : List AB} {β : Env} {w : World} {imm : Nat → Prop} {args : List AV} {vs : Array Value} {N : Nat} (h : AVsats M β w imm args vs.toList) (d : Nat) :
    AVsat M β w imm (look (argF 0 args) d) ((vs ++ Array.replicate (N - vs.size) undef).getD d undef) := by
  have := argF_sat (pre := []) (tail := List.replicate (N - vs.size) undef) (d := d) h
  rw [Array.getD_eq_getD_getElem?]
  rw [← Array.getElem?_toList]
  simpa using this

/-- A contract from a walk, own memory handed in. -/
theorem mcalls_of {P : Program} {f : FuncId} {fn : Func} {c : Code} {M0 M1 : List AB} {args : List AV} {res : AV} {N : Nat} {F : List (Nat × AV)} (hf : P.funcs[f]? = some fn) (hN : fn.ntmps = N) (hb : fn.body = some c) (hF : nfF (argF 0 args) = some F) (hok : Nat.ble args.length N = true)
    (h : ∀ S w β, AWp ⟨P, N, S, w, M0, β, none⟩ c ⟨M0, F⟩ (retM P fn M0.length M1 res)) : MCalls P f M0 args M1 res := by
  intro S B β w vs hm hvs
  have hlen := Nat.le_of_ble_eq_true hok
  have hvl := hvs.len
  subst hN
  have hF := nfF_eq hF
  subst hF
  let S' : Nat → Prop := fun b => S b ∨ B ≤ b
  have hi0 : ∀ b, immOf S B M0 β w b → immOf S' w.heap.size M0 β w b := fun b hb => ⟨.inl hb.1, hb.2⟩
  have hm0 : MemSat S' w.heap.size M0 β w := ⟨Nat.le_refl _, hm.inj, fun i ab hi => by
    have he := hm.ent i ab hi
    cases ab with
    | gone => trivial
    | iter _ _ => exact he
    | rowo v e k pre l =>
      obtain ⟨q1, q2, g, cap, cs, q3, q4, q5, q6, q7, c1, c2, c3, q8, q9, q10⟩ := he
      exact ⟨q1, q2, g, cap, cs, q3, q4, q5, q6, q7, c1, c2, c3, q8, DenCs.mono hi0 (fun _ _ _ => rfl) _ _ q9, q10.mono (Ev.refl _ _ _) hi0 (fun _ _ _ => rfl)⟩
    | box e cells => obtain ⟨g, c, cs, k1, k2, k3⟩ := he; exact ⟨g, c, cs, k1, k2, k3.mono (Ev.refl _ _ _) hi0 (fun _ _ _ => rfl)⟩
    | row v e k es =>
      refine ⟨he.1, ?_⟩
      rcases he.2 with h0 | ⟨g, cap, cs, k1, k2, k3, k4, k5, k6⟩
      · exact .inl h0
      · exact .inr ⟨g, cap, cs, k1, k2, k3, k4, k5, DenCs.mono hi0 (fun _ _ _ => rfl) _ _ k6⟩, fun b hl => .inl (hm.own b hl)⟩
  have hs0 : Sat ⟨P, fn.ntmps, S', w, M0, β, none⟩ ⟨M0, argF 0 args⟩ { tmps := vs ++ Array.replicate (fn.ntmps - vs.size) undef, defers := [] } w :=
    ⟨by simp at hvl ⊢; omega, trivial, β, hm0, Ev.refl _ _ _, fun d => argF_satM (AVsats.mono (Ev.refl _ _ _) hi0 (fun _ _ _ => rfl) _ _ hvs) d⟩
  refine calls_of_awp (cx := ⟨P, fn.ntmps, S', w, M0, β, none⟩) rfl hf hb (h S' w β) hs0 fun e s' a' w' ⟨he, hM1, hu, xs, hr, hsub⟩ ⟨h1, _, β', h3, h4, h5⟩ => ⟨he, fun _ => ?_⟩
  obtain ⟨vs', h6, h7⟩ := run_retWs (P := P) (n := M0.length) h3 h5 hr
  subst hM1
  have himm : ∀ b, immOf S' w.heap.size (s'.M.take M0.length) β' w' b → immOf S B (s'.M.take M0.length) β' w' b := fun b hb => ⟨hb.1.elim id (fun h => .inr (Nat.le_trans hm.lo h)), hb.2⟩
  have hmc := mem_cut h3 hu
  have hm1 : MemSat S B (s'.M.take M0.length) β' w' := ⟨Nat.le_trans hm.lo h4.size, hmc.inj, fun i ab hi => by
    have he := hmc.ent i ab hi
    cases ab with
    | gone => trivial
    | iter _ _ => exact he
    | rowo v e k pre l =>
      obtain ⟨q1, q2, g, cap, cs, q3, q4, q5, q6, q7, c1, c2, c3, q8, q9, q10⟩ := he
      exact ⟨q1, q2, g, cap, cs, q3, q4, q5, q6, q7, c1, c2, c3, q8, DenCs.mono himm (fun _ _ _ => rfl) _ _ q9, q10.mono (Ev.refl _ _ _) himm (fun _ _ _ => rfl)⟩
    | box e cells => obtain ⟨g, c, cs, k1, k2, k3⟩ := he; exact ⟨g, c, cs, k1, k2, k3.mono (Ev.refl _ _ _) himm (fun _ _ _ => rfl)⟩
    | row v e k es =>
      refine ⟨he.1, ?_⟩
      rcases he.2 with h0 | ⟨g, cap, cs, k1, k2, k3, k4, k5, k6⟩
      · exact .inl h0
      · exact .inr ⟨g, cap, cs, k1, k2, k3, k4, k5, DenCs.mono himm (fun _ _ _ => rfl) _ _ k6⟩, fun b hl => (hmc.own b hl).elim id (fun h => .inr (Nat.le_trans hm.lo h))⟩
  have hEv : Ev M0 β w (s'.M.take M0.length) β' w' := ⟨h4.os, h4.tape, h4.output, h4.size, h4.keep, fun b hb => h4.new b (live_cut hb), fun i ab hi => by
    obtain ⟨ab', k1, k2⟩ := h4.ent i ab hi
    exact ⟨ab', by rw [List.getElem?_take_of_lt (List.getElem?_eq_some_iff.1 hi).1]; exact k1, k2⟩⟩
  have h8 := AVsats.mono (Ev.refl _ _ _) himm (fun _ _ _ => rfl) _ _ h7
  have h9 : ∃ v, (results fn a'.tmps).run P w' = .ok v w' ∧ AVsat (s'.M.take M0.length) β' w' (immOf S B (s'.M.take M0.length) β' w') (tupOf xs) v := by
    rw [results_eq]
    refine ⟨if h : vs'.toArray.size = 1 then vs'.toArray[0] else .tuple vs'.toArray, by simp [h6], ?_⟩
    have hl := h8.len
    match xs, vs', hl, h8 with
    | [], [], _, h8 => exact ⟨#[], rfl, h8⟩
    | [x], [v], _, ⟨_, _, e, h3, _⟩ => cases e; exact h3
    | x :: y :: xs, v :: u :: vs, _, h8 => exact ⟨_, rfl, h8⟩
  obtain ⟨v, h10, h11⟩ := h9
  have h12 : ∃ v, (results fn a'.tmps).run P w' = .ok v w' ∧ ∃ v' β'', Ending.returned v = .returned v' ∧ Ev M0 β w (s'.M.take M0.length) β'' w' ∧ MemSat S B (s'.M.take M0.length) β'' w' ∧ AVsat (s'.M.take M0.length) β'' w' (immOf S B (s'.M.take M0.length) β'' w') res v' :=
    ⟨v, h10, v, β', rfl, hEv, hm1, hsub _ _ _ _ _ h11⟩
  exact h12
end Go.Proofs.Ytajbbcnfohbieaa
