import Derived.Test.YtiolnmfaeenlmaaGreatDoorEn
/- The engine, more rules: an element of a slice whose elements are written out. -/
namespace Go.Proofs.YtiolnmfaeenlmaaGreatDoor
open Go Go.RowKit
section
variable {P : Program} {ops : Array Oper} {N : Nat} {K : AS → Prop} {o : Oper} {r : List Oper} {fo fo' : Option (List Nat)} {M M' : List AB} {F : List (Nat × AV)} {dt : Tmp} {tab : List (Nat × TE)} {out : AV}
theorem r_idxd (ht : TyTab P tab) {T e : Nat} {ee : TE} {x y : Operand} {q : IntKind} {n : Int} {es : List D} {d : D} {cs : List AV} (hg : o.guard = none) (ho : o.op = .indexAddr T x y) (hT : elemOf_ tab T = some (e, ee))
    (hx : aval (look F) x = .sl ee.size es) (hy : aval (look F) y = .val (.int q n)) (hdd : o.dst = some dt) (hd : dstB o.dst N = true) (hn : 0 ≤ n) (hi : es[n.toNat]? = some d) (hcs : nfs d.cells = some cs)
    (hp : popF fo 0 = some fo') (k : RunX P ops N K r fo' (M) ((dt, (.dptr cs)) :: F)) : RunX P ops N K (o :: r) fo M F :=
  RunX.mk (fun _ k => Run.pure_ (out := .dptr cs) hd (fun _ => StepG.plain hg (by rw [← nfs_eq hcs]; exact astep_idx ht ho hT hx hy hn hi)) (by rw [put_eq hdd]; exact k)) hp k
end
end Go.Proofs.YtiolnmfaeenlmaaGreatDoor

/- The engine, more rules: slices that are made; own memory that is forgotten. -/
namespace Go.Proofs.YtiolnmfaeenlmaaGreatDoor
open Go Go.RowKit

section
variable {w : World} {imm : Nat → Prop}
end
section
variable {P : Program} {tab : List (Nat × TE)} {o : Oper} {M : List AB} {ρ : Operand → AV}
end
section
variable {P : Program} {ops : Array Oper} {N : Nat} {K : AS → Prop} {o : Oper} {r : List Oper} {fo fo' : Option (List Nat)} {M M' : List AB} {F : List (Nat × AV)} {dt : Tmp} {tab : List (Nat × TE)} {out : AV}
end

-- Own memory that is forgotten: the entries from a number on.
mutual
def AV.under (n : Nat) : AV → Bool
  | .ptr i _ => Nat.blt i n
  | .row i _ => Nat.blt i n
  | .eptr i _ _ _ => Nat.blt i n
  | .vw i _ _ => Nat.blt i n
  | .dptr l => AV.unders n l
  | .agg l => AV.unders n l
  | .tup l => AV.unders n l
  | .cnd _ x => x.under n
  | .cl _ l => AV.unders n l
  | .alt x y => x.under n && y.under n
  | _ => true
def AV.unders (n : Nat) : List AV → Bool
  | [] => true
  | x :: r => x.under n && AV.unders n r
end
section
variable {M : List AB} {β : Env} {w : World} {S : Nat → Prop} {B n : Nat} {imm imm' : Nat → Prop}
mutual
theorem AVsat.cut (hi : ∀ b, imm b → imm' b) : ∀ (x : AV) (v : Value), x.under n = true → AVsat M β w imm x v → AVsat (M.take n) β w imm' x v
  | .any, _, _, _ => trivial
  | .val _, _, _, hx => hx
  | .sl k es, v, _, hx => DenC.mono hi (fun _ _ _ => rfl) (.sl k es) [v] hx
  | .ptr i off, v, hb, ⟨g, c, h1, h2, ab, h3, h4⟩ => by
    rw [AV.under, Nat.blt_eq] at hb
    exact ⟨g, c, h1, h2, ab, by rw [List.getElem?_take_of_lt hb]; exact h3, h4⟩
  | .row i ver, v, hb, ⟨ab, h1, h2⟩ => by
    rw [AV.under, Nat.blt_eq] at hb
    exact ⟨ab, by rw [List.getElem?_take_of_lt hb]; exact h1, h2⟩
  | .eptr i ver _ off, v, hb, ⟨ab, h1, h2⟩ => by
    rw [AV.under, Nat.blt_eq] at hb
    exact ⟨ab, by rw [List.getElem?_take_of_lt hb]; exact h1, h2⟩
  | .dptr l, v, hb, ⟨g, off, cs, h1, h2, h3, h4⟩ => ⟨g, off, cs, h1, hi _ h2, AVsats.cut hi l cs (by rw [AV.under] at hb; exact hb) h3, h4⟩
  | .agg l, v, hb, ⟨cs, h1, h2⟩ => ⟨cs, h1, AVsats.cut hi l _ (by rw [AV.under] at hb; exact hb) h2⟩
  | .tup l, v, hb, ⟨cs, h1, h2⟩ => ⟨cs, h1, AVsats.cut hi l _ (by rw [AV.under] at hb; exact hb) h2⟩
  | .cnd c x, v, hb, ⟨h1, h2⟩ => ⟨fun hc => AVsat.cut hi x v (by rw [AV.under] at hb; exact hb) (h1 hc), h2⟩
  | .cl f l, v, hb, ⟨cs, h1, h2⟩ => ⟨cs, h1, AVsats.cut hi l _ (by rw [AV.under] at hb; exact hb) h2⟩
  | .ub _ _, _, _, hx => hx
  | .pr _, _, _, hx => hx
  | .vw i ver p, v, hb, ⟨ab, h1, h2⟩ => by
    rw [AV.under, Nat.blt_eq] at hb
    exact ⟨ab, by rw [List.getElem?_take_of_lt hb]; exact h1, h2⟩
  | .alt x y, v, hb, hx => by
    rw [AV.under, Bool.and_eq_true] at hb
    exact hx.elim (fun k => .inl (AVsat.cut hi x v hb.1 k)) (fun k => .inr (AVsat.cut hi y v hb.2 k))
theorem AVsats.cut (hi : ∀ b, imm b → imm' b) : ∀ (l : List AV) (vs : List Value), AV.unders n l = true → AVsats M β w imm l vs → AVsats (M.take n) β w imm' l vs
  | [], _, _, hx => hx
  | x :: l, _, hb, ⟨v, r, h1, h2, h3⟩ => by
    rw [AV.unders, Bool.and_eq_true] at hb
    exact ⟨v, r, h1, AVsat.cut hi x v hb.1 h2, AVsats.cut hi l r hb.2 h3⟩
end
theorem live_cut {b : Nat} (h : live (M.take n) β b) : live M β b := by
  obtain ⟨i, ab, c, h1, h2⟩ := h
  rw [List.getElem?_take] at h1
  split at h1
  · exact ⟨i, ab, c, h1, h2⟩
  · cases h1
def AB.under (n : Nat) : AB → Bool
  | .box _ l => AV.unders n l
  | .rowo _ _ _ _ _ l => AV.unders n l
  | _ => true
def keepsB (n : Nat) (F : List (Nat × AV)) : List (Nat × AV) → Prop
  | [] => True
  | (d, x) :: r => ((look F d).under n = true ∧ Sub (look F d) x) ∧ keepsB n F r
theorem fits_drop {P : Program} {N : Nat} {w0 : World} {M0 : List AB} {β0 : Env} {L : Option Nat} {M' : List AB} {F F' : List (Nat × AV)} (n : Nat) (hM : M.take n = M') (hb : M'.all (AB.under n) = true) (hF : keepsB n F F') (hn : Nat.ble M0.length n = true := by rfl) : Fits ⟨P, N, S, w0, M0, β0, L⟩ ⟨M, F⟩ ⟨M', F'⟩ := by
  subst hM
  rintro a w ⟨h1, h2, β, h3, h4, h5⟩
  have hi : ∀ b, immOf S w0.heap.size M β w b → immOf S w0.heap.size (M.take n) β w b := fun b h => ⟨h.1, h.2.1, fun hl => h.2.2 (live_cut hl)⟩
  have old : ∀ {i ab}, (M.take n)[i]? = some ab → M[i]? = some ab := fun {i ab} h => by
    rw [List.getElem?_take] at h
    split at h
    · exact h
    · cases h
  refine ⟨h1, h2, β, ⟨h3.lo, fun i j ab ab' g c c' k1 k2 k3 k4 => h3.inj i j ab ab' g c c' (old k1) k2 k3 (old k4), fun i ab hi' => ?_, fun b hb => h3.own b (live_cut hb), h3.gl.mono hi (fun _ _ _ => rfl)⟩, ⟨h4.os, h4.tape, h4.output, h4.size, h4.keep, fun b hb => h4.new b (live_cut hb), fun i ab hi => by
    obtain ⟨ab', k1, k2⟩ := h4.ent i ab hi
    have hlt : i < n := Nat.lt_of_lt_of_le (List.getElem?_eq_some_iff.1 hi).1 (Nat.le_of_ble_eq_true hn)
    exact ⟨ab', by rw [List.getElem?_take_of_lt hlt]; exact k1, k2⟩⟩, fun d => ?_⟩
  · have he := h3.ent i ab (old hi')
    have hbl : ab.under n = true := List.all_eq_true.1 hb ab (List.mem_of_getElem? hi')
    cases ab with
    | gone => trivial
    | box e cells =>
      obtain ⟨g, c, cs, k1, k2, k3⟩ := he
      exact ⟨g, c, cs, k1, k2, AVsats.cut hi _ _ hbl k3⟩
    | iter s p => exact he
    | rowo v e k pre mo cells =>
      obtain ⟨q1, q2, g, cap, cs, q3, q4, q5, q6, q7, c1, c2, c3, q8, q9, q10⟩ := he
      exact ⟨q1, q2, g, cap, cs, q3, q4, q5, q6, q7, c1, c2, c3, q8, DenCs.mono hi (fun _ _ _ => rfl) _ _ q9, AVsats.cut hi _ _ hbl q10⟩
    | row v e k es =>
      refine ⟨he.1, ?_⟩
      rcases he.2 with h0 | ⟨g, cap, cs, k1, k2, k3, k4, k5, k6⟩
      · exact .inl h0
      · exact .inr ⟨g, cap, cs, k1, k2, k3, k4, k5, DenCs.mono hi (fun _ _ _ => rfl) _ _ k6⟩
  · have key : ∀ F' : List (Nat × AV), keepsB n F F' → AVsat (M.take n) β w (immOf S w0.heap.size (M.take n) β w) (look F' d) (a.tmps.getD d undef) := by
      intro F'
      induction F' with
      | nil => exact fun _ => trivial
      | cons p r ih =>
        obtain ⟨e, x⟩ := p
        rintro ⟨⟨k0, k1⟩, k2⟩
        cases hb : Nat.beq e d with
        | true =>
          simp only [look, hb, cond_true]
          have := Nat.eq_of_beq_eq_true hb
          subst this
          exact k1 _ _ _ _ _ (AVsat.cut hi _ _ k0 (h5 e))
        | false =>
          simp only [look, hb, cond_false]
          exact ih k2
    exact key F' hF
end
end Go.Proofs.YtiolnmfaeenlmaaGreatDoor

/- The engine, more rules: a choice under a guard. -/
namespace Go.Proofs.YtiolnmfaeenlmaaGreatDoor
open Go Go.RowKit
section
variable {P : Program} {ops : Array Oper} {o : Oper} {F : Nat → AV} {M : List AB} {out : AV}
theorem StepG.cndG {j : Nat} {want c : Bool} {g : Tmp} {ρ' : Operand → AV} (hg : o.guard = some (j, want)) (hj : dstOf ops j = some g) (hF : guardOf want (F g) = some c)
    (hc : c = true → ∀ x, Sub (aval F x) (ρ' x)) (h : c = true → AStep P o M ρ' M out) : StepG P ops o M F M (.cnd c out) := by
  intro S B β a w hm hs K Q hK
  have h1 := hs g (guard_mem hg hj)
  have hw : Region.wanted o (yielded ops a.tmps) = c := by
    unfold guardOf at hF
    split at hF
    · rename_i b hb
      rw [hb] at h1
      cases hF
      have hy := yielded_of (a := a) hj h1
      simp [Region.wanted, hg, hy, boolOf]
    · rename_i c' b hb
      rw [hb] at h1
      cases hF
      obtain ⟨h2, h3⟩ := h1
      cases c' with
      | true =>
        have hy := yielded_of (a := a) hj (h2 rfl)
        simp [Region.wanted, hg, hy, boolOf]
      | false =>
        have hy := yielded_of (a := a) hj (h3 rfl)
        simp [Region.wanted, hg, hy, undef, boolOf]
    · cases hF
  cases c with
  | false =>
    rw [hw]
    exact hK undef β w (Ev.refl _ _ _) hm ⟨(fun h => by cases h), fun _ => rfl⟩
  | true =>
    rw [hw, if_pos rfl]
    refine h rfl S B β a w hm (fun x hx => hc rfl x _ _ _ _ _ ?_) K Q fun v β' w' e1 e2 e3 => hK v β' w' e1 e2 ⟨fun _ => e3, (fun h => by cases h)⟩
    cases x with
    | tmp t => exact hs t (mem_looksAt_tmp hx)
    | const _ => rfl
    | global _ => rfl
    | func _ => exact ⟨#[], rfl, rfl⟩
end
section
variable {P : Program} {ops : Array Oper} {N : Nat} {K : AS → Prop} {o : Oper} {r : List Oper} {fo fo' : Option (List Nat)} {M M' : List AB} {F : List (Nat × AV)} {dt : Tmp} {tab : List (Nat × TE)} {out : AV}
/-- A choice of two, under a guard. -/
theorem r_or_cnd {j : Nat} {want c0 b d : Bool} {g : Tmp} {q x y : Operand} (hg : o.guard = some (j, want)) (hj : dstOf ops j = some g) (hF : guardOf want (look F g) = some c0) (ho : o.op = .pick q x y) (hq : aval (look F) q = .cnd c0 (.val (.bool b)))
    (hx : aval (look F) x = .val (.bool true)) (hy : aval (look F) y = .cnd (c0 && (b == false)) (.val (.bool d))) (hdd : o.dst = some dt) (hd : dstB o.dst N = true) (hp : popF fo 0 = some fo')
    (k : RunX P ops N K r fo' M ((dt, .cnd c0 (.val (.bool (b || d)))) :: F)) : RunX P ops N K (o :: r) fo M F := by
  refine RunX.mk (fun _ k => Run.pure_ hd (fun M => ?_) (by rw [put_eq hdd]; exact k)) hp k
  refine StepG.cndG (ρ' := fun z => match aval (look F) z with
    | .cnd c1 v => if c1 = c0 then v else if c1 = (c0 && (b == false)) then .cnd (b == false) v else .any
    | v => v) hg hj hF (fun hc z => ?_) fun hc => ?_
  · subst hc
    generalize aval (look F) z = u
    cases u with
    | cnd c1 v =>
      dsimp only
      split
      · rename_i h; subst h; exact fun _ _ _ _ _ h => h.1 rfl
      · split
        · rename_i h; rw [Bool.true_and] at h; subst h; exact Sub.refl _
        · exact Sub.any _
    | _ => exact Sub.refl _
  · subst hc
    refine astep_pick ho (b := b) ?_ (fun hb => ?_) (fun hb => ?_)
    · rw [hq]; simp
    · rw [hx, hb]; exact Sub.refl _
    · rw [hy, hb]
      simp
      exact Sub.refl _
theorem r_and_cnd {j : Nat} {want c0 b d : Bool} {g : Tmp} {q x y : Operand} (hg : o.guard = some (j, want)) (hj : dstOf ops j = some g) (hF : guardOf want (look F g) = some c0) (ho : o.op = .pick q x y) (hq : aval (look F) q = .cnd c0 (.val (.bool b)))
    (hx : aval (look F) x = .cnd (c0 && (b == true)) (.val (.bool d))) (hy : aval (look F) y = .val (.bool false)) (hdd : o.dst = some dt) (hd : dstB o.dst N = true) (hp : popF fo 0 = some fo')
    (k : RunX P ops N K r fo' M ((dt, .cnd c0 (.val (.bool (b && d)))) :: F)) : RunX P ops N K (o :: r) fo M F := by
  refine RunX.mk (fun _ k => Run.pure_ hd (fun M => ?_) (by rw [put_eq hdd]; exact k)) hp k
  refine StepG.cndG (ρ' := fun z => match aval (look F) z with
    | .cnd c1 v => if c1 = c0 then v else if c1 = (c0 && (b == true)) then .cnd (b == true) v else .any
    | v => v) hg hj hF (fun hc z => ?_) fun hc => ?_
  · subst hc
    generalize aval (look F) z = u
    cases u with
    | cnd c1 v =>
      dsimp only
      split
      · rename_i h; subst h; exact fun _ _ _ _ _ h => h.1 rfl
      · split
        · rename_i h; rw [Bool.true_and] at h; subst h; exact Sub.refl _
        · exact Sub.any _
    | _ => exact Sub.refl _
  · subst hc
    refine astep_pick ho (b := b) ?_ (fun hb => ?_) (fun hb => ?_)
    · rw [hq]; simp
    · rw [hx, hb]
      simp
      exact Sub.refl _
    · rw [hy, hb]; exact Sub.refl _
end
end Go.Proofs.YtiolnmfaeenlmaaGreatDoor
