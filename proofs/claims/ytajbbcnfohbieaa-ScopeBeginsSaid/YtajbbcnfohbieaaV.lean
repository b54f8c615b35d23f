/- The engine, more rules: a choice under a guard. -/
import Derived.Test.YtajbbcnfohbieaaU
namespace Go.Proofs.Ytajbbcnfohbieaa
open Go Go.RowKit
section
variable {P : Program} {ops : Array Oper} {o : Oper} {F : Nat → AV} {M : List AB} {out : AV}
theorem StepG.cndG {j : Nat} {want c : Bool} {g : Tmp} {ρ' : Operand → AV} (hg : o.guard = some (j, want)) (hj : dstOf ops j = some g) (hF : guardOf want (F g) = some c)
    (hc : c = true → ∀ x, Sub (aval F x) (ρ' x)) (h : c = true → AStep P o M ρ' M out) : StepG P ops o M F M (.cnd c out) := by
  intro S B β a w hm hs K Q hK
  have h1 := hs g (guard_mem hg hj)
  have hw : Region.wanted o (yielded ops a.tmps) = c := by
    unfold guardOf at hF
    split at hF
    · rename_i b hb
      rw [hb] at h1
      cases hF
      have hy := yielded_of (a := a) hj h1
      simp [Region.wanted, hg, hy, boolOf]
    · rename_i c' b hb
      rw [hb] at h1
      cases hF
      obtain ⟨h2, h3⟩ := h1
      cases c' with
      | true =>
        have hy := yielded_of (a := a) hj (h2 rfl)
        simp [Region.wanted, hg, hy, boolOf]
      | false =>
        have hy := yielded_of (a := a) hj (h3 rfl)
        simp [Region.wanted, hg, hy, undef, boolOf]
    · cases hF
  cases c with
  | false =>
    rw [hw]
    exact hK undef β w (Ev.refl _ _ _) hm ⟨(fun h => by cases h), fun _ => rfl⟩
  | true =>
    rw [hw, if_pos rfl]
    refine h rfl S B β a w hm (fun x hx => hc rfl x _ _ _ _ _ ?_) K Q fun v β' w' e1 e2 e3 => hK v β' w' e1 e2 ⟨fun _ => e3, (fun h => by cases h)⟩
    cases x with
    | tmp t => exact hs t (mem_looksAt_tmp hx)
    | const _ => rfl
    | global _ => rfl
    | func _ => exact ⟨#[], rfl, rfl⟩
end
section
variable {P : Program} {ops : Array Oper} {N : Nat} {K : AS → Prop} {o : Oper} {r : List Oper} {fo fo' : Option (List Nat)} {M M' : List AB} {F : List (Nat × AV)} {dt : Tmp} {tab : List (Nat × TE)} {out : AV}
/-- A choice of two, under a guard. -/
theorem r_or_cnd {j : Nat} {want c0 b d : Bool} {g : Tmp} {q x y : Operand} (hg : o.guard = some (j, want)) (hj : dstOf ops j = some g) (hF : guardOf want (look F g) = some c0) (ho : o.op = .pick q x y) (hq : aval (look F) q = .cnd c0 (.val (.bool b)))
    (hx : aval (look F) x = .val (.bool true)) (hy : aval (look F) y = .cnd (c0 && (b == false)) (.val (.bool d))) (hdd : o.dst = some dt) (hd : dstB o.dst N = true) (hp : popF fo 0 = some fo')
    (k : RunX P ops N K r fo' M ((dt, .cnd c0 (.val (.bool (b || d)))) :: F)) : RunX P ops N K (o :: r) fo M F := by
  refine RunX.mk (fun _ k => Run.pure_ hd (fun M => ?_) (by rw [put_eq hdd]; exact k)) hp k
  refine StepG.cndG (ρ' := fun z => match aval (look F) z with
    | .cnd c1 v => if c1 = c0 then v else if c1 = (c0 && (b == false)) then .cnd (b == false) v else .any
    | v => v) hg hj hF (fun hc z => ?_) fun hc => ?_
  · subst hc
    generalize aval (look F) z = u
    cases u with
    | cnd c1 v =>
      dsimp only
      split
      · rename_i h; subst h; exact fun _ _ _ _ _ h => h.1 rfl
      · split
        · rename_i h; rw [Bool.true_and] at h; subst h; exact Sub.refl _
        · exact Sub.any _
    | _ => exact Sub.refl _
  · subst hc
    refine astep_pick ho (b := b) ?_ (fun hb => ?_) (fun hb => ?_)
    · rw [hq]; simp
    · rw [hx, hb]; exact Sub.refl _
    · rw [hy, hb]
      simp
      exact Sub.refl _
theorem r_and_cnd {j : Nat} {want c0 b d : Bool} {g : Tmp} {q x y : Operand} (hg : o.guard = some (j, want)) (hj : dstOf ops j = some g) (hF : guardOf want (look F g) = some c0) (ho : o.op = .pick q x y) (hq : aval (look F) q = .cnd c0 (.val (.bool b)))
    (hx : aval (look F) x = .cnd (c0 && (b == true)) (.val (.bool d))) (hy : aval (look F) y = .val (.bool false)) (hdd : o.dst = some dt) (hd : dstB o.dst N = true) (hp : popF fo 0 = some fo')
    (k : RunX P ops N K r fo' M ((dt, .cnd c0 (.val (.bool (b && d)))) :: F)) : RunX P ops N K (o :: r) fo M F := by
  refine RunX.mk (fun _ k => Run.pure_ hd (fun M => ?_) (by rw [put_eq hdd]; exact k)) hp k
  refine StepG.cndG (ρ' := fun z => match aval (look F) z with
    | .cnd c1 v => if c1 = c0 then v else if c1 = (c0 && (b == true)) then .cnd (b == true) v else .any
    | v => v) hg hj hF (fun hc z => ?_) fun hc => ?_
  · subst hc
    generalize aval (look F) z = u
    cases u with
    | cnd c1 v =>
      dsimp only
      split
      · rename_i h; subst h; exact fun _ _ _ _ _ h => h.1 rfl
      · split
        · rename_i h; rw [Bool.true_and] at h; subst h; exact Sub.refl _
        · exact Sub.any _
    | _ => exact Sub.refl _
  · subst hc
    refine astep_pick ho (b := b) ?_ (fun hb => ?_) (fun hb => ?_)
    · rw [hq]; simp
    · rw [hx, hb]
      simp
      exact Sub.refl _
    · rw [hy, hb]; exact Sub.refl _
end
end Go.Proofs.Ytajbbcnfohbieaa
