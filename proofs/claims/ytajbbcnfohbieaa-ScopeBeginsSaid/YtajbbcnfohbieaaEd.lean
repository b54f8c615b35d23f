/- The engine, part 4: bodies: the rules of code, calls by contract, the bodies' ends. -/
import Derived.Test.YtajbbcnfohbieaaEc
namespace Go.Proofs.Ytajbbcnfohbieaa
open Go Go.RowKit

def putF (F : List (Nat × AV)) (d : Option Tmp) (x : AV) : List (Nat × AV) := match d with
  | some d => (d, x) :: F
  | none => F
theorem look_putF (F : List (Nat × AV)) (d : Option Tmp) (x : AV) : look (putF F d x) = upd (look F) d x := by cases d <;> rfl

def Run (P : Program) (ops : Array Oper) (N : Nat) (K : AS → Prop) : List Oper → List Nat → AS → Prop
  | [], fl, s => fl = [] ∧ K s
  | o :: r, fl, s => ∃ k fl' M' out, fl = k :: fl' ∧ dstB o.dst N = true ∧ StepK P ops k o s.M (look s.F) M' out ∧ Run P ops N K r fl' ⟨M', putF s.F o.dst out⟩

section
variable {P : Program} {ops : Array Oper} {N : Nat} {K : AS → Prop} {o : Oper} {r : List Oper} {fl : List Nat} {s : AS}
theorem Run.done (h : K s) : Run P ops N K [] [] s := ⟨rfl, h⟩
theorem Run.pure_ {out : AV} (hd : dstB o.dst N = true) (hs : ∀ M, StepG P ops o M (look s.F) M out) (h : Run P ops N K r fl ⟨s.M, putF s.F o.dst out⟩) : Run P ops N K (o :: r) (0 :: fl) s :=
  ⟨0, fl, _, out, rfl, hd, ⟨rfl, hs⟩, h⟩
theorem Run.quiet {out : AV} (hd : dstB o.dst N = true) (hs : StepG P ops o s.M (look s.F) s.M out) (h : Run P ops N K r fl ⟨s.M, putF s.F o.dst out⟩) : Run P ops N K (o :: r) (1 :: fl) s :=
  ⟨1, fl, _, out, rfl, hd, ⟨rfl, hs⟩, h⟩
theorem Run.eff {M' : List AB} {out : AV} (hd : dstB o.dst N = true) (hs : StepG P ops o s.M (look s.F) M' out) (h : Run P ops N K r fl ⟨M', putF s.F o.dst out⟩) : Run P ops N K (o :: r) (2 :: fl) s :=
  ⟨2, fl, _, out, rfl, hd, hs, h⟩

theorem Run.push {ab : AB} {out : AV} (hd : dstB o.dst N = true) (hl : 0 < s.M.length) (hs : StepG P ops o s.M (look s.F) (s.M ++ [ab]) out) (h : Run P ops N K r fl ⟨s.M ++ [ab], putF s.F o.dst out⟩) : Run P ops N K (o :: r) (3 :: fl) s :=
  ⟨3, fl, _, out, rfl, hd, ⟨⟨ab, rfl⟩, hl, hs⟩, h⟩
theorem Run.behind3 {M' : List AB} {out : AV} (hd : dstB o.dst N = true) (hM : M'.take 3 = s.M.take 3) (hs : StepG P ops o s.M (look s.F) M' out) (h : Run P ops N K r fl ⟨M', putF s.F o.dst out⟩) : Run P ops N K (o :: r) (5 :: fl) s :=
  ⟨5, fl, _, out, rfl, hd, ⟨hM, hs⟩, h⟩
theorem Run.read3 {out : AV} (hd : dstB o.dst N = true) (hs : ∀ M2 : List AB, M2.take 3 = s.M.take 3 → StepG P ops o M2 (look s.F) M2 out) (h : Run P ops N K r fl ⟨s.M, putF s.F o.dst out⟩) : Run P ops N K (o :: r) (6 :: fl) s :=
  ⟨6, fl, _, out, rfl, hd, ⟨rfl, hs⟩, h⟩
theorem Run.read0 {out : AV} (hd : dstB o.dst N = true) (hs : ∀ M2 : List AB, M2[0]? = s.M[0]? → StepG P ops o M2 (look s.F) M2 out) (h : Run P ops N K r fl ⟨s.M, putF s.F o.dst out⟩) : Run P ops N K (o :: r) (4 :: fl) s :=
  ⟨4, fl, _, out, rfl, hd, ⟨rfl, hs⟩, h⟩

theorem Run.toF {fn : Nat → Nat} (l : List Oper) : ∀ (fl : List Nat) (s : AS) (i : Nat), (∀ j, l[j]? = ops[i + j]?) → (∀ j, fl.getD j 0 = fn (i + j)) → Run P ops N K l fl s →
    RunF P ops N fn (fun M F => ∃ G, F = look G ∧ K ⟨M, G⟩) (List.range' i l.length) s.M (look s.F) := by
  induction l with
  | nil => exact fun _ s _ _ _ h => ⟨s.F, rfl, h.2⟩
  | cons o l ih =>
    rintro fl s i h1 h2 ⟨k, fl', M', out, rfl, hd, hs, h⟩
    have h0 : ops[i]? = some o := by simpa using (h1 0).symm
    have hk : fn i = k := by simpa using (h2 0).symm
    refine ⟨o, M', out, h0, hd, by rw [hk]; exact hs, ?_⟩
    have := ih fl' ⟨M', putF s.F o.dst out⟩ (i + 1) (fun j => by have := h1 (j + 1); simpa [Nat.add_assoc, Nat.add_comm 1 j] using this)
      (fun j => by have := h2 (j + 1); simpa [Nat.add_assoc, Nat.add_comm 1 j] using this) h
    rw [look_putF] at this
    exact this
end

/-- Guards. -/
def dstOf (ops : Array Oper) (j : Nat) : Option Tmp := (ops[j]?).bind (·.dst)

section
variable {P : Program} {ops : Array Oper} {o : Oper} {M M' : List AB} {F : Nat → AV} {out : AV}
theorem mem_looksAt_tmp {t : Tmp} (h : Operand.tmp t ∈ o.op.operands) : t ∈ o.looksAt ops := by
  unfold Oper.looksAt
  rw [List.mem_append]
  refine .inl ?_
  rw [List.mem_filterMap]
  exact ⟨.tmp t, by simpa using h, rfl⟩
theorem avals_of {β : Env} {w : World} {imm : Nat → Prop} {a : Act} (h : ∀ t ∈ o.looksAt ops, AVsat M β w imm (F t) (a.tmps.getD t undef)) :
    ∀ x ∈ o.op.operands, AVsat M β w imm (aval F x) (a.eval x) := by
  intro x hx
  cases x with
  | tmp t => exact h t (mem_looksAt_tmp hx)
  | const _ => rfl
  | global _ => rfl
  | func _ => exact ⟨#[], rfl, rfl⟩
theorem guard_mem {j : Nat} {want : Bool} {g : Tmp} (hg : o.guard = some (j, want)) (hj : dstOf ops j = some g) : g ∈ o.looksAt ops := by
  unfold Oper.looksAt
  rw [List.mem_append]
  refine .inr ?_
  unfold dstOf at hj
  simp [hg, hj]
def boolOf : Value → Option Bool
  | .bool b => some b
  | _ => none
theorem yielded_of {a : Act} {j : Nat} {g : Tmp} {v : Value} (hj : dstOf ops j = some g) (hv : a.tmps.getD g undef = v) : yielded ops a.tmps j = boolOf v := by
  unfold yielded
  unfold dstOf at hj
  rw [hj]
  simp only [Option.bind_some]
  rw [Array.getD_eq_getD_getElem?] at hv
  cases ht : a.tmps[g]? with
  | none =>
    rw [ht] at hv
    subst hv
    rfl
  | some u =>
    rw [ht] at hv
    simp at hv
    subst hv
    cases u <;> rfl
theorem StepG.plain (hg : o.guard = none) (h : AStep P o M (aval F) M' out) : StepG P ops o M F M' out := by
  intro S B β a w hm hs K Q hK
  have hw : Region.wanted o (yielded ops a.tmps) = true := by simp [Region.wanted, hg]
  rw [if_pos hw]
  exact h S B β a w hm (avals_of hs) K Q hK
theorem StepG.on {j : Nat} {want : Bool} {g : Tmp} (hg : o.guard = some (j, want)) (hj : dstOf ops j = some g) (hF : F g = .val (.bool want)) (h : AStep P o M (aval F) M' out) : StepG P ops o M F M' out := by
  intro S B β a w hm hs K Q hK
  have h1 := hs g (guard_mem hg hj)
  rw [hF] at h1
  have hy := yielded_of (a := a) hj h1
  have hw : Region.wanted o (yielded ops a.tmps) = true := by simp [Region.wanted, hg, hy, boolOf]
  rw [if_pos hw]
  exact h S B β a w hm (avals_of hs) K Q hK
theorem StepG.off {j : Nat} {want : Bool} {g : Tmp} (hg : o.guard = some (j, want)) (hj : dstOf ops j = some g) (hF : F g = .val (.bool (!want))) : StepG P ops o M F M (.val undef) := by
  intro S B β a w hm hs K Q hK
  have h1 := hs g (guard_mem hg hj)
  rw [hF] at h1
  have hy := yielded_of (a := a) hj h1
  have hw : Region.wanted o (yielded ops a.tmps) = false := by simp [Region.wanted, hg, hy, boolOf]
  rw [hw]
  exact hK undef β w (Ev.refl _ _ _) hm rfl

def strip : AV → AV
  | .cnd _ x => x
  | x => x
def condOf : AV → Bool
  | .cnd c _ => c
  | _ => true
theorem strip_sat {M : List AB} {β : Env} {w : World} {imm : Nat → Prop} {x : AV} {v : Value} (hc : condOf x = true) (h : AVsat M β w imm x v) : AVsat M β w imm (strip x) v := by
  cases x <;> first | exact h | exact h.1 hc
/-- Are all that an operation looks at there, if it is carried out? -/
def condsOf (F : Nat → AV) : List Operand → Bool
  | [] => true
  | .tmp t :: r => condOf (F t) && condsOf F r
  | _ :: r => condsOf F r
theorem condsOf_mem {F : Nat → AV} {t : Tmp} : ∀ {l : List Operand}, condsOf F l = true → Operand.tmp t ∈ l → condOf (F t) = true
  | .tmp u :: r, h, hm => by
    rw [condsOf, Bool.and_eq_true] at h
    rcases List.mem_cons.1 hm with h1 | h1
    · cases h1; exact h.1
    · exact condsOf_mem h.2 h1
  | .const _ :: r, h, hm => by
    rcases List.mem_cons.1 hm with h1 | h1
    · cases h1
    · exact condsOf_mem (l := r) h h1
  | .global _ :: r, h, hm => by
    rcases List.mem_cons.1 hm with h1 | h1
    · cases h1
    · exact condsOf_mem (l := r) h h1
  | .func _ :: r, h, hm => by
    rcases List.mem_cons.1 hm with h1 | h1
    · cases h1
    · exact condsOf_mem (l := r) h h1
/-- The guard's own word, where it is not decided. -/
def guardOf (want : Bool) : AV → Option Bool
  | .val (.bool b) => some (b == want)
  | .cnd c (.val (.bool b)) => some (c && b == want)
  | _ => none
theorem StepG.cnd {j : Nat} {want c : Bool} {g : Tmp} (hg : o.guard = some (j, want)) (hj : dstOf ops j = some g) (hF : guardOf want (F g) = some c)
    (hc : c = true → condsOf F o.op.operands.toList = true) (h : c = true → AStep P o M (aval fun t => strip (F t)) M out) : StepG P ops o M F M (.cnd c out) := by
  intro S B β a w hm hs K Q hK
  have h1 := hs g (guard_mem hg hj)
  have hw : Region.wanted o (yielded ops a.tmps) = c := by
    unfold guardOf at hF
    split at hF
    · rename_i b hb
      rw [hb] at h1
      cases hF
      have hy := yielded_of (a := a) hj h1
      simp [Region.wanted, hg, hy, boolOf]
    · rename_i c' b hb
      rw [hb] at h1
      cases hF
      obtain ⟨h2, h3⟩ := h1
      cases c' with
      | true =>
        have hy := yielded_of (a := a) hj (h2 rfl)
        simp [Region.wanted, hg, hy, boolOf]
      | false =>
        have hy := yielded_of (a := a) hj (h3 rfl)
        simp [Region.wanted, hg, hy, undef, boolOf]
    · cases hF
  cases c with
  | false =>
    rw [hw]
    exact hK undef β w (Ev.refl _ _ _) hm ⟨(fun h => by cases h), fun _ => rfl⟩
  | true =>
    rw [hw, if_pos rfl]
    refine h rfl S B β a w hm (fun x hx => ?_) K Q fun v β' w' e1 e2 e3 => hK v β' w' e1 e2 ⟨fun _ => e3, (fun h => by cases h)⟩
    cases x with
    | tmp t => exact strip_sat (condsOf_mem (hc rfl) (by simpa using hx)) (hs t (mem_looksAt_tmp hx))
    | const _ => rfl
    | global _ => rfl
    | func _ => exact ⟨#[], rfl, rfl⟩
end

/-- A body's rule: from a state on, whatever comes, comes with what is asked. -/
def AWp (cx : Cx) (c : Code) (s : AS) (Q : Exit → AS → Prop) : Prop := ∀ a w, Sat cx s a w → c.wpIn (Fen cx.L) 0 cx.P (fun e a' w' => ∃ s', Q e s' ∧ Sat cx s' a' w') a w
def thenA (K : AS → Prop) (Q : Exit → AS → Prop) : Exit → AS → Prop
  | .normal, s => K s
  | e, s => Q e s
def blockA (id : Nat) (Q : Exit → AS → Prop) : Exit → AS → Prop
  | .exit id', s => bif Nat.beq id' id then Q .normal s else Q (.exit id') s
  | e, s => Q e s
/-- What is known may be known otherwise. -/
def Fits (cx : Cx) (s s' : AS) : Prop := ∀ a w, Sat cx s a w → Sat cx s' a w

section
variable {cx : Cx} {s : AS} {Q : Exit → AS → Prop}
theorem awp_fits {c : Code} {s' : AS} (h : Fits cx s s') (k : AWp cx c s' Q) : AWp cx c s Q := fun a w hs => k a w (h a w hs)
theorem awp_mono {c : Code} {Q' : Exit → AS → Prop} (h : AWp cx c s Q) (hq : ∀ e s, Q e s → Q' e s) : AWp cx c s Q' :=
  fun a w hs => wpIn_mono (h a w hs) fun _ _ _ ⟨s', h1, h2⟩ => ⟨s', hq _ _ h1, h2⟩
theorem awp_skip (h : Q .normal s) : AWp cx .skip s Q := fun _ _ hs => wpIn_skip ⟨s, h, hs⟩
theorem awp_ret (h : Q .ret s) : AWp cx .ret s Q := fun _ _ hs => wpIn_ret ⟨s, h, hs⟩
theorem awp_exit {id : Nat} (h : Q (.exit id) s) : AWp cx (.exit id) s Q := fun _ _ hs => wpIn_exit ⟨s, h, hs⟩
theorem awp_seq {x y : Code} (h : AWp cx x s (thenA (fun s' => AWp cx y s' Q) Q)) : AWp cx (.seq x y) s Q := by
  intro a w hs
  refine wpIn_seq (wpIn_mono (h a w hs) fun e a' w' ⟨s', h1, h2⟩ => ?_)
  cases e with
  | normal => exact h1 a' w' h2
  | exit id => exact ⟨s', h1, h2⟩
  | goto l => exact ⟨s', h1, h2⟩
  | ret => exact ⟨s', h1, h2⟩
  | panic c => exact ⟨s', h1, h2⟩
  | outgrown => exact ⟨s', h1, h2⟩
theorem awp_block {id : Nat} {c : Code} (h : AWp cx c s (blockA id Q)) : AWp cx (.block id c) s Q := by
  intro a w hs
  refine wpIn_block (wpIn_mono (h a w hs) fun e a' w' ⟨s', h1, h2⟩ => ?_)
  cases e with
  | exit id' =>
    by_cases hid : id' = id
    · subst hid
      simp only [Exit.inBlock, if_true]
      exact ⟨s', by simpa [blockA] using h1, h2⟩
    · have : Nat.beq id' id = false := by
        cases hb : Nat.beq id' id
        · rfl
        · exact absurd (Nat.eq_of_beq_eq_true hb) hid
      simp only [blockA, this, cond_false] at h1
      simp only [Exit.inBlock, hid, if_false]
      exact ⟨s', h1, h2⟩
  | normal => exact ⟨s', h1, h2⟩
  | goto l => exact ⟨s', h1, h2⟩
  | ret => exact ⟨s', h1, h2⟩
  | panic c => exact ⟨s', h1, h2⟩
  | outgrown => exact ⟨s', h1, h2⟩
theorem awp_cond {c : Operand} {x y : Code} {b : Bool} (hc : aval (look s.F) c = .val (.bool b)) (ht : b = true → AWp cx x s Q) (hf : b = false → AWp cx y s Q) : AWp cx (.cond c x y) s Q := by
  intro a w hs
  obtain ⟨h1, h2, β, h3, h4, h5⟩ := hs
  have hv : a.eval c = .bool b := by
    have := aval_sat (F := look s.F) h5 c
    rw [hc] at this
    exact this
  exact wpIn_cond_split hv (fun hb => ht hb a w ⟨h1, h2, β, h3, h4, h5⟩) (fun hb => hf hb a w ⟨h1, h2, β, h3, h4, h5⟩)
theorem awp_loop {σ : Type} {c : Code} (I : σ → AS) (μ : σ → Nat) (x0 : σ) (h0 : Fits cx s (I x0))
    (round : ∀ x, AWp cx c (I x) (thenA (fun s' => ∃ y, μ y < μ x ∧ Fits cx s' (I y)) Q)) : AWp cx (.loop c) s Q := by
  intro a w hs
  intro b k cs hro hb hr
  have key : ∀ n x a w, μ x = n → Sat cx (I x) a w →
      ∃ e a' w', (∃ s', Q e s' ∧ Sat cx s' a' w') ∧ ArrivesIn (Machine.fenced cx.P (Fen cx.L)) cx.P (lone (b.atR a (.code c :: .inLoop c :: k)) cs w) b k cs e a' w' := by
    intro n
    induction n using Nat.strongRecOn with
    | _ n ih =>
      intro x a w hn hx
      obtain ⟨e, a₁, w₁, ⟨s', h1, h2⟩, harr⟩ := round x a w hx b (.inLoop c :: k) cs hro hb hr
      cases e with
      | normal =>
        obtain ⟨y, hy, hf⟩ := h1
        obtain ⟨e₂, a₂, w₂, hq₂, harr₂⟩ := ih (μ y) (by omega) y a₁ w₁ rfl (hf a₁ w₁ h2)
        exact ⟨e₂, a₂, w₂, hq₂, .of_steps (StepsIn.trans harr (.one (fenced_calm hb hr rfl) stepR_inLoop)) harr₂⟩
      | exit id => exact ⟨_, a₁, w₁, ⟨s', h1, h2⟩, .pass (x := .inLoop c) rfl (fun _ _ => .inl (by simp)) harr⟩
      | goto l => exact ⟨_, a₁, w₁, ⟨s', h1, h2⟩, .pass (x := .inLoop c) rfl (fun _ _ => .inl (by simp)) harr⟩
      | ret => exact ⟨_, a₁, w₁, ⟨s', h1, h2⟩, .pass (x := .inLoop c) rfl (fun _ _ => .inl (by simp)) harr⟩
      | panic ch => exact ⟨_, a₁, w₁, ⟨s', h1, h2⟩, .pass (x := .inLoop c) rfl (fun _ _ => .inl (by simp)) harr⟩
      | outgrown => exact ⟨_, a₁, w₁, ⟨s', h1, h2⟩, .pass (x := .inLoop c) rfl (fun _ _ => .inl (by simp)) harr⟩
  obtain ⟨e, a', w', hq, harr⟩ := key _ x0 a w rfl (h0 a w hs)
  exact ⟨e, a', w', hq, .of_steps (.one (fenced_calm hb hr rfl) stepR_loop) harr⟩
end

end Go.Proofs.Ytajbbcnfohbieaa
