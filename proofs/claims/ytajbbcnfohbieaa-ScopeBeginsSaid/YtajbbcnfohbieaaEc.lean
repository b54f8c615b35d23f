/- The engine, part 3: regions: a run in the text's order serves every order that the edges allow. -/
import Derived.Test.YtajbbcnfohbieaaEb
import Derived.Orders
import Derived.OrdersIn
namespace Go.Proofs.Ytajbbcnfohbieaa
open Go Go.RowKit

/-- The whole fence, for a frame of a round or for a plain one. -/
def Fen (L : Option Nat) : Fence := { Fence.wide with round := L }
theorem callsIn_fen {L : Option Nat} {n : Nat} {P : Program} {f : FuncId} {args : Array Value} {w : World} {R : Ending → World → Prop} (h : Calls P f args w R) : CallsIn (Fen L) n P f args w R :=
  (callsIn_wide (n := n)).2 h
theorem rowsIn_fen {L : Option Nat} {n : Nat} {P : Program} {row : String} {args : Array Value} {w : World} {R : Value → World → Prop} (h : Rows P row args w R) : RowsIn (Fen L) n P row args w R := by
  intro c cs _
  obtain ⟨v, w', r, s⟩ := h c cs
  exact ⟨v, w', r, stepsIn_wide.2 s⟩
theorem wpIn_of {L : Option Nat} {n : Nat} {P : Program} {o : Oper} {a : Act} {w : World} {K : Act → World → Prop} {Q : Exit → Act → World → Prop} (h : o.wp P a w (fun a' w' => a'.defers = a.defers ∧ K a' w') Q) : o.wpIn (Fen L) n P a w K Q := by
  refine ⟨fun _ _ => trivial, ?_⟩
  unfold Oper.wp at h
  by_cases hd : ∃ c, o.op = .defer c
  · obtain ⟨c, hc⟩ := hd
    have he : execOp a.eval o = (do let d ← resolve a.eval c o.type; pure (.defer d)) := by
      unfold execOp
      rw [hc]
    rw [he] at h
    have hs : ∃ r : Deferred → Sem Next, Oper.semAt (Fen L).round a.eval o = (do let d ← resolve a.eval c o.type; r d) := by
      cases L with
      | none => exact ⟨_, he⟩
      | some l =>
        refine ⟨fun d => do Instr.deferInRound l d; pure .skip, ?_⟩
        unfold Oper.semAt
        simp only [Fen, hc]
    obtain ⟨r, hs⟩ := hs
    rw [hs]
    simp only [Sem.run_bind] at h ⊢
    cases hr : (resolve a.eval c o.type).run P w with
    | ok d w' =>
      rw [hr] at h
      have h : ({ a with defers := d :: a.defers }.put o.dst undef).defers = a.defers ∧ _ := h
      have h := h.1
      cases ho : o.dst <;> rw [ho] at h <;> simp [Act.put] at h
    | halt x w' =>
      rw [hr] at h
      cases x <;> exact h
  · rw [Oper.semAt_eq _ _ _ fun c hc => hd ⟨c, hc⟩]
    revert h
    generalize (execOp a.eval o).run P w = r
    intro h
    cases r with
    | ok x w' =>
      cases x with
      | value v => exact h.2
      | skip => exact h.2
      | defer d => exact h.2
      | enter f args => exact ⟨fun h => (nomatch h), callsIn_fen (Calls.mono h fun e w'' he => by cases e <;> first | exact he.2 | exact he)⟩
      | row r args => exact ⟨fun h => (nomatch h), rowsIn_fen (Rows.mono h fun _ _ he => he.2)⟩
      | _ => exact h.elim
    | halt x w' => cases x <;> exact h

def upd (F : Nat → AV) (d : Option Tmp) (x : AV) : Nat → AV := match d with
  | some d => fun n => bif Nat.beq d n then x else F n
  | none => F
def dstB : Option Tmp → Nat → Bool
  | some d, N => Nat.blt d N
  | none, _ => true

/-- One operation, its guard and all. -/
def StepG (P : Program) (ops : Array Oper) (o : Oper) (M : List AB) (F : Nat → AV) (M' : List AB) (out : AV) : Prop :=
  ∀ (S : Nat → Prop) (B : Nat) (β : Env) (a : Act) (w : World), MemSat S B M β w → (∀ t ∈ o.looksAt ops, AVsat M β w (immOf S B M β w) (F t) (a.tmps.getD t undef)) →
    ∀ (K : Act → World → Prop) (Q : Exit → Act → World → Prop),
      (∀ v β' w', Ev M β w M' β' w' → MemSat S B M' β' w' → AVsat M' β' w' (immOf S B M' β' w') out v → K (a.put o.dst v) w') →
      if Region.wanted o (yielded ops a.tmps) then o.wp P a w K Q else K (a.put o.dst undef) w

/-- 0: it looks at no memory · 1: it turns nothing of ours · 2: it may · 3: it adds an entry, and turns none · 4: it turns nothing of ours, and looks at the first entry alone · 5: it turns none of the first three entries · 6: it turns nothing of ours, and looks at the first three entries alone. -/
def StepK (P : Program) (ops : Array Oper) (k : Nat) (o : Oper) (M : List AB) (F : Nat → AV) (M' : List AB) (out : AV) : Prop :=
  match k with
  | 0 => M' = M ∧ ∀ M, StepG P ops o M F M out
  | 1 => M' = M ∧ StepG P ops o M F M out
  | 3 => (∃ ab, M' = M ++ [ab]) ∧ 0 < M.length ∧ StepG P ops o M F M' out
  | 4 => M' = M ∧ ∀ M2 : List AB, M2[0]? = M[0]? → StepG P ops o M2 F M2 out
  | 5 => M'.take 3 = M.take 3 ∧ StepG P ops o M F M' out
  | 6 => M' = M ∧ ∀ M2 : List AB, M2.take 3 = M.take 3 → StepG P ops o M2 F M2 out
  | _ => StepG P ops o M F M' out

def RunF (P : Program) (ops : Array Oper) (N : Nat) (fl : Nat → Nat) (K : List AB → (Nat → AV) → Prop) : List Nat → List AB → (Nat → AV) → Prop
  | [], M, F => K M F
  | i :: L, M, F => ∃ o M' out, ops[i]? = some o ∧ dstB o.dst N = true ∧ StepK P ops (fl i) o M F M' out ∧ RunF P ops N fl K L M' (upd F o.dst out)

section
variable {P : Program} {ops : Array Oper} {N : Nat} {fl : Nat → Nat} {K : List AB → (Nat → AV) → Prop}

theorem StepG.congr {o : Oper} {M M' : List AB} {F F' : Nat → AV} {out : AV} (hF : ∀ t ∈ o.looksAt ops, F' t = F t) (h : StepG P ops o M F M' out) : StepG P ops o M F' M' out :=
  fun S B β a w hm hs K Q hK => h S B β a w hm (fun t ht => by rw [← hF t ht]; exact hs t ht) K Q hK
theorem StepK.congr {k : Nat} {o : Oper} {M M' : List AB} {F F' : Nat → AV} {out : AV} (hF : ∀ t ∈ o.looksAt ops, F' t = F t) (h : StepK P ops k o M F M' out) : StepK P ops k o M F' M' out := by
  unfold StepK at *
  split at h
  · exact ⟨h.1, fun M => (h.2 M).congr hF⟩
  · exact ⟨h.1, h.2.congr hF⟩
  · exact ⟨h.1, h.2.1, h.2.2.congr hF⟩
  · exact ⟨h.1, fun M2 h2 => (h.2 M2 h2).congr hF⟩
  · exact ⟨h.1, h.2.congr hF⟩
  · exact ⟨h.1, fun M2 h2 => (h.2 M2 h2).congr hF⟩
  · exact h.congr hF

theorem upd_other {F : Nat → AV} {d : Option Tmp} {x : AV} {t : Nat} (h : d ≠ some t) : upd F d x t = F t := by
  cases d with
  | none => rfl
  | some d =>
    have : Nat.beq d t = false := by
      cases hb : Nat.beq d t
      · rfl
      · exact absurd (congrArg some (Nat.eq_of_beq_eq_true hb)) h
    simp [upd, this]
theorem upd_same (F : Nat → AV) (d : Nat) (x : AV) : upd F (some d) x d = x := by simp [upd]
theorem upd_comm {F : Nat → AV} {d e : Option Tmp} {x y : AV} (h : ∀ t, d = some t → e ≠ some t) : upd (upd F d x) e y = upd (upd F e y) d x := by
  funext n
  by_cases hd : d = some n
  · have he := h n hd
    rw [upd_other he, hd, upd_same, upd_same]
  · rw [upd_other (d := d) hd]
    by_cases he : e = some n
    · rw [he, upd_same, upd_same]
    · rw [upd_other he, upd_other he, upd_other hd]

/-- Two operations that do not mind each other. -/
structure Easy (ops : Array Oper) (fl : Nat → Nat) (i j : Nat) (oi oj : Oper) : Prop where
  w1 : ∀ d, oi.dst = some d → d ∉ oj.looksAt ops
  w2 : ∀ d, oj.dst = some d → d ∉ oi.looksAt ops
  w3 : ∀ d, oi.dst = some d → oj.dst ≠ some d
  m : fl i = 0 ∨ fl j = 0 ∨ ((fl i = 1 ∨ fl i = 4 ∨ fl i = 6) ∧ (fl j = 1 ∨ fl j = 4 ∨ fl j = 6)) ∨ (fl i = 3 ∧ fl j = 4) ∨ (fl i = 4 ∧ fl j = 3) ∨ (fl i = 5 ∧ fl j = 6) ∨ (fl i = 6 ∧ fl j = 5)

theorem RunF.swap {i j : Nat} {L : List Nat} {M : List AB} {F : Nat → AV} (he : ∀ oi oj, ops[i]? = some oi → ops[j]? = some oj → Easy ops fl i j oi oj)
    (h : RunF P ops N fl K (i :: j :: L) M F) : RunF P ops N fl K (j :: i :: L) M F := by
  obtain ⟨oi, M1, x, h1, h2, h3, oj, M2, y, h4, h5, h6, h7⟩ := h
  have e := he oi oj h1 h4
  have hFj : ∀ t ∈ oj.looksAt ops, F t = upd F oi.dst x t := fun t ht => (upd_other fun hd => e.w1 t hd ht).symm
  have hFi : ∀ t ∈ oi.looksAt ops, upd F oj.dst y t = F t := fun t ht => upd_other fun hd => e.w2 t hd ht
  rw [upd_comm e.w3] at h7
  have h6' := h6.congr hFj
  have h3' := h3.congr hFi
  have stay : ∀ {k : Nat} {o : Oper} {M M' : List AB} {F : Nat → AV} {out : AV}, (k = 1 ∨ k = 4 ∨ k = 6) → StepK P ops k o M F M' out → M' = M := by
    rintro k o M M' F out (rfl | rfl | rfl) h
    · exact h.1
    · exact h.1
    · exact h.1
  rcases e.m with hm | hm | ⟨hm, hn⟩ | ⟨hm, hn⟩ | ⟨hm, hn⟩ | ⟨hm, hn⟩ | ⟨hm, hn⟩
  · rw [hm] at h3 h3'
    obtain ⟨rfl, h8⟩ := h3
    refine ⟨oj, M2, y, h4, h5, h6', oi, M2, x, h1, h2, ?_, h7⟩
    rw [hm]; exact ⟨rfl, h3'.2⟩
  · rw [hm] at h6 h6'
    obtain ⟨rfl, h8⟩ := h6
    refine ⟨oj, M, y, h4, h5, ?_, oi, M2, x, h1, h2, h3', h7⟩
    rw [hm]; exact ⟨rfl, h6'.2⟩
  · have e1 := stay hm h3
    have e2 := stay hn h6
    subst e1
    subst e2
    exact ⟨oj, M2, y, h4, h5, h6', oi, M2, x, h1, h2, h3', h7⟩
  · -- an entry added, the first entry read
    rw [hm] at h3 h3'
    rw [hn] at h6 h6'
    obtain ⟨⟨ab, rfl⟩, hl, h8⟩ := h3
    obtain ⟨rfl, h9⟩ := h6'
    have e0 : (M ++ [ab])[0]? = M[0]? := List.getElem?_append_left hl
    refine ⟨oj, M, y, h4, h5, ?_, oi, M ++ [ab], x, h1, h2, ?_, h7⟩
    · rw [hn]; exact ⟨rfl, fun M2 h => h9 M2 (h.trans e0.symm)⟩
    · rw [hm]; exact ⟨⟨ab, rfl⟩, hl, h3'.2.2⟩
  · rw [hm] at h3 h3'
    rw [hn] at h6 h6'
    obtain ⟨rfl, h8⟩ := h3
    obtain ⟨⟨ab, rfl⟩, hl, h9⟩ := h6'
    have e0 : (M1 ++ [ab])[0]? = M1[0]? := List.getElem?_append_left hl
    refine ⟨oj, M1 ++ [ab], y, h4, h5, ?_, oi, M1 ++ [ab], x, h1, h2, ?_, h7⟩
    · rw [hn]; exact ⟨⟨ab, rfl⟩, hl, h9⟩
    · rw [hm]; exact ⟨rfl, fun M2 h => h3'.2 M2 (h.trans e0)⟩
  · rw [hm] at h3 h3'
    rw [hn] at h6 h6'
    obtain ⟨e0, h8⟩ := h3
    obtain ⟨rfl, h9⟩ := h6'
    refine ⟨oj, M, y, h4, h5, ?_, oi, _, x, h1, h2, ?_, h7⟩
    · rw [hn]; exact ⟨rfl, fun M2 h => h9 M2 (h.trans e0.symm)⟩
    · rw [hm]; exact ⟨e0, h3'.2⟩
  · rw [hm] at h3 h3'
    rw [hn] at h6 h6'
    obtain ⟨rfl, h8⟩ := h3
    obtain ⟨e0, h9⟩ := h6'
    refine ⟨oj, M2, y, h4, h5, ?_, oi, M2, x, h1, h2, ?_, h7⟩
    · rw [hn]; exact ⟨e0, h9⟩
    · rw [hm]; exact ⟨rfl, fun M3 h => h3'.2 M3 (h.trans e0)⟩

theorem RunF.front {i : Nat} {L2 : List Nat} : ∀ {L1 : List Nat} {M : List AB} {F : Nat → AV}, (∀ j ∈ L1, ∀ oj oi, ops[j]? = some oj → ops[i]? = some oi → Easy ops fl j i oj oi) →
    RunF P ops N fl K (L1 ++ i :: L2) M F → RunF P ops N fl K (i :: (L1 ++ L2)) M F
  | [], _, _, _, h => h
  | j :: L1, M, F, he, h => by
    obtain ⟨o, M', out, h1, h2, h3, h4⟩ := h
    have h5 := RunF.front (fun j hj => he j (by simp [hj])) h4
    exact RunF.swap (fun oj oi hj hi => he j (by simp) oj oi hj hi) ⟨o, M', out, h1, h2, h3, h5⟩

/-- The edges that bind in every order, as a mask of all that must go ahead. -/
def ancOf (masks : List Nat) (o : Oper) : Nat :=
  o.after.toList.foldl (fun m e => if Region.binds .any e then m ||| (1 <<< e.on) ||| masks.getD e.on 0 else m) 0
def ancs : List Oper → List Nat → List Nat
  | [], ms => ms
  | o :: r, ms => ancs r (ms ++ [ancOf ms o])

def slotsApart (ops : Array Oper) (x y : Oper) : Bool :=
  (match x.dst with
   | some d => !(y.looksAt ops).contains d && y.dst != some d
   | none => true) &&
  (match y.dst with
   | some d => !(x.looksAt ops).contains d
   | none => true)
def memApart (a b : Nat) : Bool := a == 0 || b == 0 || ((a == 1 || a == 4 || a == 6) && (b == 1 || b == 4 || b == 6)) || (a == 3 && b == 4) || (a == 4 && b == 3) || (a == 5 && b == 6) || (a == 6 && b == 5)
/-- May the text's order stand for all orders? -/
def ordOK (ops : Array Oper) (fl : List Nat) (ms : List Nat) : Bool :=
  (List.range ops.size).all fun i => match ops[i]? with
    | none => true
    | some o => (o.after.all fun e => !Region.binds .any e || Nat.blt e.on i) && (ms.getD i 0 == ancOf (ms.take i) o) &&
      (List.range i).all fun j => Nat.testBit (ms.getD i 0) j || (match ops[j]? with
        | none => true
        | some o' => slotsApart ops o' o && memApart (fl.getD j 0) (fl.getD i 0))

theorem ancOf_bit {masks : List Nat} {o : Oper} {j : Nat} (h : Nat.testBit (ancOf masks o) j = true) : ∃ e ∈ o.after, Region.binds .any e = true ∧ (e.on = j ∨ Nat.testBit (masks.getD e.on 0) j = true) := by
  unfold ancOf at h
  have key : ∀ (l : List Edge) (m : Nat), Nat.testBit (l.foldl (fun m e => if Region.binds .any e then m ||| (1 <<< e.on) ||| masks.getD e.on 0 else m) m) j = true →
      Nat.testBit m j = true ∨ ∃ e ∈ l, Region.binds .any e = true ∧ (e.on = j ∨ Nat.testBit (masks.getD e.on 0) j = true) := by
    intro l
    induction l with
    | nil => exact fun m h => .inl h
    | cons e l ih =>
      intro m h
      rcases ih _ h with h1 | ⟨e', he', h2⟩
      · dsimp only at h1
        split at h1
        · rename_i hb
          rw [Nat.testBit_or, Nat.testBit_or, Bool.or_eq_true, Bool.or_eq_true] at h1
          rcases h1 with (h1 | h1) | h1
          · exact .inl h1
          · refine .inr ⟨e, by simp, hb, .inl ?_⟩
            rw [Nat.one_shiftLeft, Nat.testBit_two_pow] at h1
            simpa using h1
          · exact .inr ⟨e, by simp, hb, .inr h1⟩
        · exact .inl h1
      · exact .inr ⟨e', by simp [he'], h2⟩
  rcases key _ 0 h with h1 | ⟨e, he, h2⟩
  · simp at h1
  · exact ⟨e, by simpa using he, h2⟩

/-- What is done is done with all that went ahead of it. -/
def Closed (ops : Array Oper) (listed : Array Bool) : Prop :=
  ∀ j oj, ops[j]? = some oj → listed.getD j false = true → ∀ e ∈ oj.after, Region.binds .any e = true → listed.getD e.on false = true

theorem ordOK_at {flags ms : List Nat} (h : ordOK ops flags ms = true) {i : Nat} {o : Oper} (ho : ops[i]? = some o) :
    (∀ e ∈ o.after, Region.binds .any e = true → e.on < i) ∧ ms.getD i 0 = ancOf (ms.take i) o ∧ ∀ j oj, j < i → ops[j]? = some oj → Nat.testBit (ms.getD i 0) j = true ∨ (slotsApart ops oj o = true ∧ memApart (flags.getD j 0) (flags.getD i 0) = true) := by
  have hlt : i < ops.size := (Array.getElem?_eq_some_iff.1 ho).1
  have h1 := List.all_eq_true.1 h i (List.mem_range.2 hlt)
  rw [ho] at h1
  simp only [Bool.and_eq_true, beq_iff_eq] at h1
  obtain ⟨⟨h2, h3⟩, h4⟩ := h1
  refine ⟨fun e he hbd => ?_, h3, fun j oj hj hoj => ?_⟩
  · have := Array.all_eq_true_iff_forall_mem.1 h2 e he
    rw [hbd] at this
    simpa [Nat.blt_eq] using this
  · have h5 := List.all_eq_true.1 h4 j (List.mem_range.2 hj)
    rw [hoj] at h5
    simpa using h5

theorem anc_listed {flags ms : List Nat} (h : ordOK ops flags ms = true) {listed : Array Bool} (hc : Closed ops listed) : ∀ (i : Nat) (o : Oper), ops[i]? = some o →
    (∀ e ∈ o.after, Region.binds .any e = true → listed.getD e.on false = true) → ∀ j, Nat.testBit (ms.getD i 0) j = true → listed.getD j false = true := by
  intro i
  induction i using Nat.strongRecOn with
  | _ i ih =>
    intro o ho hall j hj
    obtain ⟨h1, h2, _⟩ := ordOK_at h ho
    rw [h2] at hj
    obtain ⟨e, he, hb, h3⟩ := ancOf_bit hj
    have hl := hall e he hb
    rcases h3 with h3 | h3
    · rw [← h3]; exact hl
    · have hlt := h1 e he hb
      have hi : i < ops.size := (Array.getElem?_eq_some_iff.1 ho).1
      have ho' : ops[e.on]? = some ops[e.on] := Array.getElem?_eq_getElem (by omega)
      have h4 : (ms.take i).getD e.on 0 = ms.getD e.on 0 := by
        rw [List.getD_eq_getElem?_getD, List.getD_eq_getElem?_getD, List.getElem?_take, if_pos hlt]
      rw [h4] at h3
      exact ih e.on hlt _ ho' (hc e.on _ ho' hl) j h3

theorem slotsApart_spec {x y : Oper} (h : slotsApart ops x y = true) : (∀ d, x.dst = some d → d ∉ y.looksAt ops) ∧ (∀ d, y.dst = some d → d ∉ x.looksAt ops) ∧ (∀ d, x.dst = some d → y.dst ≠ some d) := by
  unfold slotsApart at h
  rw [Bool.and_eq_true] at h
  refine ⟨fun d hd => ?_, fun d hd => ?_, fun d hd => ?_⟩
  · have h1 := h.1; rw [hd] at h1; simp at h1; exact h1.1
  · have h1 := h.2; rw [hd] at h1; simpa using h1
  · have h1 := h.1; rw [hd] at h1; simp at h1; exact h1.2
theorem memApart_spec {a b : Nat} (h : memApart a b = true) : a = 0 ∨ b = 0 ∨ ((a = 1 ∨ a = 4 ∨ a = 6) ∧ (b = 1 ∨ b = 4 ∨ b = 6)) ∨ (a = 3 ∧ b = 4) ∨ (a = 4 ∧ b = 3) ∨ (a = 5 ∧ b = 6) ∨ (a = 6 ∧ b = 5) := by
  simp [memApart] at h
  omega

theorem wanted_of {o : Oper} {a : Act} : Region.wanted o (yielded ops a.tmps) = true ∨ Region.wanted o (yielded ops a.tmps) = false := by
  cases Region.wanted o (yielded ops a.tmps) <;> simp

/-- What holds of a slot after a store into it. -/
theorem upd_sat {M : List AB} {β : Env} {w : World} {imm : Nat → Prop} {F : Nat → AV} {a : Act} {d : Option Tmp} {x : AV} {v : Value} (hd : dstB d a.tmps.size = true)
    (hF : ∀ t, AVsat M β w imm (F t) (a.tmps.getD t undef)) (hx : AVsat M β w imm x v) : ∀ t, AVsat M β w imm (upd F d x t) ((a.put d v).tmps.getD t undef) := by
  intro t
  cases d with
  | none => exact hF t
  | some d =>
    have hlt : d < a.tmps.size := by simpa [dstB, Nat.blt_eq] using hd
    by_cases hdt : d = t
    · subst hdt
      rw [upd_same]
      simp only [Act.put, Array.getD_eq_getD_getElem?]
      rw [Array.getElem?_setIfInBounds_self_of_lt hlt]
      exact hx
    · rw [upd_other (by simpa using hdt)]
      have := hF t
      simp only [Act.put, Array.getD_eq_getD_getElem?] at this ⊢
      rw [Array.getElem?_setIfInBounds_ne hdt]
      exact this
theorem size_put (a : Act) (d : Option Tmp) (v : Value) : (a.put d v).tmps.size = a.tmps.size := by cases d <;> simp [Act.put]
theorem defers_put (a : Act) (d : Option Tmp) (v : Value) : (a.put d v).defers = a.defers := by cases d <;> simp [Act.put]

/-- One step of a body's state. -/
theorem StepG.sat {cx : Cx} (hN : cx.N = N) {o : Oper} {M M' : List AB} {F : Nat → AV} {out : AV} (hd : dstB o.dst N = true) (h : StepG cx.P ops o M F M' out) {a : Act} {w : World} (hs : SatF cx M F a w)
    {K : Act → World → Prop} {Q : Exit → Act → World → Prop} (hK : ∀ a' w', SatF cx M' (upd F o.dst out) a' w' → K a' w') :
    if Region.wanted o (yielded ops a.tmps) then o.wpIn (Fen cx.L) 0 cx.P a w K Q else (∀ f, o.about cx.P w a.eval = some f → (Fen cx.L).fn f) ∧ K (a.put o.dst undef) w := by
  obtain ⟨h1, h2, β, h3, h4, h5⟩ := hs
  have := h cx.S cx.w0.heap.size β a w h3 (fun t _ => h5 t) (fun a' w' => a'.defers = a.defers ∧ K a' w') Q fun v β' w' e1 e2 e3 => ⟨defers_put _ _ _,
    hK _ _ ⟨by rw [size_put, h1], by rw [defers_put]; exact h2.ev h3 e1, β', e2, h4.trans e1, upd_sat (by rw [h1, hN]; exact hd) (fun t => (h5 t).ev e1) e3⟩⟩
  split
  · rename_i hw; rw [if_pos hw] at this; exact wpIn_of this
  · rename_i hw; rw [if_neg hw] at this; exact ⟨fun _ _ => trivial, this.2⟩

theorem StepK.g {k : Nat} {o : Oper} {M M' : List AB} {F : Nat → AV} {out : AV} (h : StepK P ops k o M F M' out) : StepG P ops o M F M' out := by
  unfold StepK at h
  split at h
  · obtain ⟨rfl, h⟩ := h; exact h _
  · obtain ⟨rfl, h⟩ := h; exact h
  · exact h.2.2
  · obtain ⟨rfl, h⟩ := h; exact h _ rfl
  · exact h.2
  · obtain ⟨rfl, h⟩ := h; exact h _ rfl
  · exact h

/-- The region without a draw. -/
theorem RunF.in_order {cx : Cx} {Q : Exit → Act → World → Prop} (hQ : ∀ M F a w, K M F → SatF cx M F a w → Q .normal a w) (L : List Nat) : ∀ (M : List AB) (F : Nat → AV) (a : Act) (w : World),
    RunF cx.P ops cx.N fl K L M F → SatF cx M F a w → wpOpsIn (Fen cx.L) 0 cx.P ops Q L a w := by
  induction L with
  | nil => exact fun M F a w h hs => hQ M F a w h hs
  | cons i L ih =>
    rintro M F a w ⟨o, M', out, h1, h2, h3, h4⟩ hs
    unfold wpOpsIn
    rw [h1]
    exact StepG.sat rfl h2 h3.g hs fun a' w' hs' => ih _ _ a' w' h4 hs'

theorem RunF.any {cx : Cx} (hP : cx.P = P) (hN : cx.N = N) {Q : Exit → Act → World → Prop} {flags ms : List Nat} (hok : ordOK ops flags ms = true) (hfl : ∀ i, fl i = flags.getD i 0)
    (hQ : ∀ M F a w, K M F → SatF cx M F a w → Q .normal a w) : ∀ (fuel : Nat) (L : List Nat) (listed : Array Bool) (M : List AB) (F : Nat → AV) (a : Act) (w : World),
    L.length = fuel → listed.size = ops.size → List.Pairwise (· < ·) L → (∀ j, j < ops.size → (listed.getD j false = false ↔ j ∈ L)) → (∀ j ∈ L, j < ops.size) → Closed ops listed →
    RunF P ops N fl K L M F → SatF cx M F a w → wpAnyIn (Fen cx.L) 0 P .any ops Q fuel listed a w := by
  subst hP
  intro fuel
  induction fuel with
  | zero =>
    intro L listed M F a w hlen hsz _ hL _ _ h hs
    have : L = [] := List.eq_nil_of_length_eq_zero hlen
    subst this
    refine ⟨?_, hQ M F a w h hs⟩
    rw [List.eq_nil_iff_forall_not_mem]
    intro j hj
    obtain ⟨h1, o, h2, _⟩ := mem_ready.1 hj
    have hlt : j < ops.size := (Array.getElem?_eq_some_iff.1 h2).1
    have : listed.getD j false = false := by
      simp [hsz, hlt] at h1 ⊢; exact h1
    exact absurd ((hL j hlt).1 this) (by simp)
  | succ fuel ih =>
    intro L listed M F a w hlen hsz hp hL hlt hc h hs
    refine ⟨fun hr => ?_, fun i hi => ?_⟩
    · match L, hlen with
      | i :: L', _ =>
        have hi : i < ops.size := hlt i (by simp)
        have ho : ops[i]? = some ops[i] := Array.getElem?_eq_getElem hi
        have : i ∈ Region.ready .any ops listed := by
          refine mem_ready.2 ⟨?_, _, ho, fun e he hbd => ?_⟩
          · have := (hL i hi).2 (by simp)
            simp [hsz, hi] at this ⊢; exact this
          · have h1 := (ordOK_at hok ho).1 e he hbd
            cases hl : listed.getD e.on false with
            | true => rfl
            | false =>
              have := (hL e.on (by omega)).1 hl
              rcases List.mem_cons.1 this with h2 | h2
              · omega
              · have := (List.pairwise_cons.1 hp).1 _ h2; omega
        rw [hr] at this
        cases this
    · obtain ⟨h1, o, h2, h3⟩ := mem_ready.1 hi
      have hi' : i < ops.size := (Array.getElem?_eq_some_iff.1 h2).1
      have hun : listed.getD i false = false := by simp [hsz, hi'] at h1 ⊢; exact h1
      have hmem := (hL i hi').1 hun
      obtain ⟨L1, L2, hsplit⟩ := List.append_of_mem hmem
      subst hsplit
      have hanc := anc_listed hok hc i o h2 h3
      have hfront := RunF.front (fun j hj oj oi hoj hoi => by
        rw [h2] at hoi; cases hoi
        have hji : j < i := (List.pairwise_append.1 hp).2.2 j hj i (by simp)
        have hjn : listed.getD j false = false := (hL j (by omega)).2 (by simp [hj])
        rcases (ordOK_at hok h2).2.2 j oj hji hoj with h4 | ⟨h4, h5⟩
        · rw [hanc j h4] at hjn; cases hjn
        · obtain ⟨s1, s2, s3⟩ := slotsApart_spec h4
          exact ⟨s1, s2, s3, by rw [hfl, hfl]; exact memApart_spec h5⟩) h
      obtain ⟨o', M', out, k1, k2, k3, k4⟩ := hfront
      rw [h2] at k1; cases k1
      unfold wpOpIn
      rw [h2]
      refine StepG.sat hN k2 k3.g hs fun a' w' hs' => ?_
      refine ih (L1 ++ L2) _ _ _ a' w' (by simp at hlen ⊢; omega) (by simp [hsz]) ?_ (fun j hj => ?_) (fun j hj => hlt j (by simp at hj ⊢; rcases hj with h | h <;> simp [h])) ?_ k4 hs'
      · exact hp.sublist (by simp)
      · by_cases hji : i = j
        · subst hji
          have hno : i ∉ L1 ++ L2 := by
            have := List.pairwise_append.1 hp
            rw [List.mem_append]
            rintro (h4 | h4)
            · have := this.2.2 i h4 i (by simp); omega
            · have := (List.pairwise_cons.1 this.2.1).1 i h4; omega
          simp [hsz, hj, hno]
        · rw [getD_set_ne false hji, hL j hj]
          simp [Ne.symm hji]
      · intro j oj hoj hl e he hb
        by_cases hji : i = j
        · subst hji
          rw [h2] at hoj; cases hoj
          exact getD_set_true (h3 e he hb)
        · rw [getD_set_ne false hji] at hl
          exact getD_set_true (hc j oj hoj hl e he hb)

theorem wp_region_runF {cx : Cx} {id : Nat} {Q : Exit → Act → World → Prop} {M : List AB} {F : Nat → AV} {a : Act} {w : World} {flags ms : List Nat} (hm : cx.P.follows .mixedOrders = true)
    (hok : ordOK ops flags ms = true) (h : RunF cx.P ops cx.N (fun i => flags.getD i 0) K (List.range ops.size) M F) (hs : SatF cx M F a w)
    (hQ : ∀ M F a w, K M F → SatF cx M F a w → Q .normal a w) : (Code.region id ops true).wpIn (Fen cx.L) 0 cx.P Q a w := by
  refine wpIn_region_any hm ?_
  obtain ⟨h1, h2, β, h3, h4, h5⟩ := hs
  have hb : Below w.heap.size w w.drew := (Below.refl _ _).drew
  have he : Ev M β w M β w.drew := Ev.of_below hb
  refine RunF.any rfl rfl hok (fun _ => rfl) hQ ops.size (List.range ops.size) _ M F a _ (by simp) (by simp) List.pairwise_lt_range (fun j hj => ?_) (fun j hj => by simpa using hj) (fun j oj _ hl => ?_) h
    ⟨h1, h2.ev h3 he, β, h3.quiet hb, h4.trans he, fun d => (h5 d).ev he⟩
  · simp [hj]
  · rcases Nat.lt_or_ge j ops.size with hj | hj <;> simp [hj] at hl
end

end Go.Proofs.Ytajbbcnfohbieaa
