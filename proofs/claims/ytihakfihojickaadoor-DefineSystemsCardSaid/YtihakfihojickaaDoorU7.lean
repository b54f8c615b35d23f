/- The engine: a drawn region with two operations, not side by side, that meet in memory and are drawn in either order: both orders of the two are walked. -/
import Derived.Test.YtihakfihojickaaDoorU5
namespace Go.Proofs.YtihakfihojickaaDoor
open Go Go.RowKit

section
variable {P : Program} {ops : Array Oper} {N : Nat} {fl : Nat → Nat} {K : List AB → (Nat → AV) → Prop}
def ordOK3 (ops : Array Oper) (fl : List Nat) (ms : List Nat) (c d : Nat) : Bool :=
  (List.range ops.size).all fun i => match ops[i]? with
    | none => true
    | some o => (o.after.all fun e => !Region.binds .any e || Nat.blt e.on i) && (ms.getD i 0 == ancOf (ms.take i) o) &&
      (Nat.ble i d || Nat.testBit (ms.getD i 0) c) &&
      (Nat.ble i c || Nat.ble d i || (match ops[c]? with
        | none => true
        | some o' => slotsApart ops o o' && memApart (fl.getD i 0) (fl.getD c 0))) &&
      (List.range i).all fun j => Nat.testBit (ms.getD i 0) j || (j == c && i == d) || (match ops[j]? with
        | none => true
        | some o' => slotsApart ops o' o && memApart (fl.getD j 0) (fl.getD i 0))
theorem ordOK3_at {flags ms : List Nat} {c d : Nat} (h : ordOK3 ops flags ms c d = true) {i : Nat} {o : Oper} (ho : ops[i]? = some o) :
    (∀ e ∈ o.after, Region.binds .any e = true → e.on < i) ∧ ms.getD i 0 = ancOf (ms.take i) o ∧ (∀ j oj, j < i → ops[j]? = some oj → ¬ (j = c ∧ i = d) → Nat.testBit (ms.getD i 0) j = true ∨ (slotsApart ops oj o = true ∧ memApart (flags.getD j 0) (flags.getD i 0) = true)) ∧ (d < i → Nat.testBit (ms.getD i 0) c = true) ∧
    (c < i → i < d → ∀ oc, ops[c]? = some oc → slotsApart ops o oc = true ∧ memApart (flags.getD i 0) (flags.getD c 0) = true) := by
  have hlt : i < ops.size := (Array.getElem?_eq_some_iff.1 ho).1
  have h1 := List.all_eq_true.1 h i (List.mem_range.2 hlt)
  rw [ho] at h1
  simp only [Bool.and_eq_true, beq_iff_eq] at h1
  obtain ⟨⟨⟨⟨h2, h3⟩, h6⟩, h7⟩, h4⟩ := h1
  refine ⟨fun e he hbd => ?_, h3, fun j oj hj hoj hne => ?_, fun hci => ?_, fun h8 h9 oc hoc => ?_⟩
  · have := Array.all_eq_true_iff_forall_mem.1 h2 e he
    rw [hbd] at this
    simpa [Nat.blt_eq] using this
  · have h5 := List.all_eq_true.1 h4 j (List.mem_range.2 hj)
    rw [hoj] at h5
    simp only [Bool.or_eq_true, Bool.and_eq_true, beq_iff_eq] at h5
    rcases h5 with (h5 | h5) | h5
    · exact .inl h5
    · exact absurd h5 hne
    · exact .inr h5
  · simp only [Bool.or_eq_true, Nat.ble_eq] at h6
    rcases h6 with h6 | h6
    · omega
    · exact h6
  · rw [hoc] at h7
    simp only [Bool.or_eq_true, Bool.and_eq_true, Nat.ble_eq] at h7
    rcases h7 with (h7 | h7) | h7
    · omega
    · omega
    · exact h7
theorem anc_listed3 {flags ms : List Nat} {c d : Nat} (h : ordOK3 ops flags ms c d = true) {listed : Array Bool} (hc : Closed ops listed) : ∀ (i : Nat) (o : Oper), ops[i]? = some o →
    (∀ e ∈ o.after, Region.binds .any e = true → listed.getD e.on false = true) → ∀ j, Nat.testBit (ms.getD i 0) j = true → listed.getD j false = true := by
  intro i
  induction i using Nat.strongRecOn with
  | _ i ih =>
    intro o ho hall j hj
    obtain ⟨h1, h2, _⟩ := ordOK3_at h ho
    rw [h2] at hj
    obtain ⟨e, he, hb, h3⟩ := ancOf_bit hj
    have hl := hall e he hb
    rcases h3 with h3 | h3
    · rw [← h3]; exact hl
    · have hlt := h1 e he hb
      have hi : i < ops.size := (Array.getElem?_eq_some_iff.1 ho).1
      have ho' : ops[e.on]? = some ops[e.on] := Array.getElem?_eq_getElem (by omega)
      have h4 : (ms.take i).getD e.on 0 = ms.getD e.on 0 := by
        rw [List.getD_eq_getElem?_getD, List.getD_eq_getElem?_getD, List.getElem?_take, if_pos hlt]
      rw [h4] at h3
      exact ih e.on hlt _ ho' (hc e.on _ ho' hl) j h3
theorem RunF.split {A B : List Nat} : ∀ {M : List AB} {F : Nat → AV}, RunF P ops N fl K (A ++ B) M F → RunF P ops N fl (fun M F => RunF P ops N fl K B M F) A M F := by
  induction A with
  | nil => exact fun h => h
  | cons i A ih =>
    rintro M F ⟨o, M', out, h1, h2, h3, h4⟩
    exact ⟨o, M', out, h1, h2, h3, ih h4⟩
/-- The order of the rest: one of the two is done, or both stand yet. -/
theorem RunF.anyD {cx : Cx} (hP : cx.P = P) (hN : cx.N = N) {Q : Exit → Act → World → Prop} {flags ms : List Nat} {c d : Nat} (hcd : c < d) (hok : ordOK3 ops flags ms c d = true) (hfl : ∀ i, fl i = flags.getD i 0)
    (hQ : ∀ M F a w, K M F → SatF cx M F a w → Q .normal a w) : ∀ (fuel : Nat) (L : List Nat) (listed : Array Bool) (M : List AB) (F : Nat → AV) (a : Act) (w : World),
    L.length = fuel → listed.size = ops.size → List.Pairwise (· < ·) L → (∀ j, j < ops.size → (listed.getD j false = false ↔ j ∈ L)) → (∀ j ∈ L, j < ops.size) → Closed ops listed →
    ((¬ (c ∈ L ∧ d ∈ L) ∧ RunF P ops N fl K L M F) ∨ ∃ A Z B, L = A ++ c :: (Z ++ d :: B) ∧ (∀ j ∈ A, j < c) ∧ (∀ j ∈ Z, c < j ∧ j < d) ∧ (∀ j ∈ B, d < j) ∧ RunF P ops N fl (fun M F => RunF P ops N fl K (c :: d :: B) M F ∧ RunF P ops N fl K (d :: c :: B) M F) (A ++ Z) M F) → SatF cx M F a w → wpAnyIn (Fen cx.L) 0 P .any ops Q fuel listed a w := by
  subst hP
  intro fuel
  induction fuel with
  | zero =>
    intro L listed M F a w hlen hsz _ hL _ _ h hs
    have : L = [] := List.eq_nil_of_length_eq_zero hlen
    subst this
    refine ⟨?_, hQ M F a w (h.elim (fun h => h.2) (fun ⟨A, Z, B, e, _⟩ => by cases A <;> cases e)) hs⟩
    rw [List.eq_nil_iff_forall_not_mem]
    intro j hj
    obtain ⟨h1, o, h2, _⟩ := mem_ready.1 hj
    have hlt : j < ops.size := (Array.getElem?_eq_some_iff.1 h2).1
    have : listed.getD j false = false := by
      simp [hsz, hlt] at h1 ⊢; exact h1
    exact absurd ((hL j hlt).1 this) (by simp)
  | succ fuel ih =>
    intro L listed M F a w hlen hsz hp hL hlt hc h hs
    refine ⟨fun hr => ?_, fun i hi => ?_⟩
    · match L, hlen with
      | i :: L', _ =>
        have hi : i < ops.size := hlt i (by simp)
        have ho : ops[i]? = some ops[i] := Array.getElem?_eq_getElem hi
        have : i ∈ Region.ready .any ops listed := by
          refine mem_ready.2 ⟨?_, _, ho, fun e he hbd => ?_⟩
          · have := (hL i hi).2 (by simp)
            simp [hsz, hi] at this ⊢; exact this
          · have h1 := (ordOK3_at hok ho).1 e he hbd
            cases hl : listed.getD e.on false with
            | true => rfl
            | false =>
              have := (hL e.on (by omega)).1 hl
              rcases List.mem_cons.1 this with h2 | h2
              · omega
              · have := (List.pairwise_cons.1 hp).1 _ h2; omega
        rw [hr] at this
        cases this
    · obtain ⟨h1, o, h2, h3⟩ := mem_ready.1 hi
      have hi' : i < ops.size := (Array.getElem?_eq_some_iff.1 h2).1
      have hun : listed.getD i false = false := by simp [hsz, hi'] at h1 ⊢; exact h1
      have hmem := (hL i hi').1 hun
      have hanc := anc_listed3 hok hc i o h2 h3
      have easy : ∀ j, j ∈ L → j < i → ¬ (j = c ∧ i = d) → ∀ oj oi, ops[j]? = some oj → ops[i]? = some oi → Easy ops fl j i oj oi := fun j hj hji hne oj oi hoj hoi => by
        rw [h2] at hoi; cases hoi
        have hjn : listed.getD j false = false := (hL j (hlt j hj)).2 hj
        rcases (ordOK3_at hok h2).2.2.1 j oj hji hoj hne with h4 | ⟨h4, h5⟩
        · rw [hanc j h4] at hjn; cases hjn
        · obtain ⟨s1, s2, s3⟩ := slotsApart_spec h4
          exact ⟨s1, s2, s3, by rw [hfl, hfl]; exact memApart_spec h5⟩
      -- what stands between the two and c
      have easyZ : ∀ m, c < m → m < d → ∀ om oc, ops[m]? = some om → ops[c]? = some oc → Easy ops fl m c om oc := fun m hm1 hm2 om oc hom hoc => by
        obtain ⟨h4, h5⟩ := (ordOK3_at hok hom).2.2.2.2 hm1 hm2 oc hoc
        obtain ⟨s1, s2, s3⟩ := slotsApart_spec h4
        exact ⟨s1, s2, s3, by rw [hfl, hfl]; exact memApart_spec h5⟩
      have go : ∀ L1 L2, L = L1 ++ i :: L2 → (∃ M' out, dstB o.dst N = true ∧ StepK cx.P ops (fl i) o M F M' out ∧ ((¬ (c ∈ L1 ++ L2 ∧ d ∈ L1 ++ L2) ∧ RunF cx.P ops N fl K (L1 ++ L2) M' (upd F o.dst out)) ∨ ∃ A Z B, L1 ++ L2 = A ++ c :: (Z ++ d :: B) ∧ (∀ j ∈ A, j < c) ∧ (∀ j ∈ Z, c < j ∧ j < d) ∧ (∀ j ∈ B, d < j) ∧ RunF cx.P ops N fl (fun M F => RunF cx.P ops N fl K (c :: d :: B) M F ∧ RunF cx.P ops N fl K (d :: c :: B) M F) (A ++ Z) M' (upd F o.dst out))) →
          wpOpIn (Fen cx.L) 0 cx.P ops Q i (wpAnyIn (Fen cx.L) 0 cx.P .any ops Q fuel (listed.setIfInBounds i true)) a w := by
        rintro L1 L2 rfl ⟨M', out, k2, k3, k4⟩
        unfold wpOpIn
        rw [h2]
        refine StepG.sat hN k2 k3.g hs fun a' w' hs' => ?_
        refine ih (L1 ++ L2) _ _ _ a' w' (by simp at hlen ⊢; omega) (by simp [hsz]) ?_ (fun j hj => ?_) (fun j hj => hlt j (by simp at hj ⊢; rcases hj with h | h <;> simp [h])) ?_ k4 hs'
        · exact hp.sublist (by simp)
        · by_cases hji : i = j
          · subst hji
            have hno : i ∉ L1 ++ L2 := by
              have := List.pairwise_append.1 hp
              rw [List.mem_append]
              rintro (h4 | h4)
              · have := this.2.2 i h4 i (by simp); omega
              · have := (List.pairwise_cons.1 this.2.1).1 i h4; omega
            simp [hsz, hj, hno]
          · rw [getD_set_ne false hji, hL j hj]
            simp [Ne.symm hji]
        · intro j oj hoj hl e he hb
          by_cases hji : i = j
          · subst hji
            rw [h2] at hoj; cases hoj
            exact getD_set_true (h3 e he hb)
          · rw [getD_set_ne false hji] at hl
            exact getD_set_true (hc j oj hoj hl e he hb)
      have step : ∀ {K' : List AB → (Nat → AV) → Prop} {L1 : List Nat}, RunF cx.P ops N fl K' (i :: L1) M F → ∃ M' out, dstB o.dst N = true ∧ StepK cx.P ops (fl i) o M F M' out ∧ RunF cx.P ops N fl K' L1 M' (upd F o.dst out) := fun ⟨o', M', out, k1, k2, k3, k4⟩ => by
        rw [h2] at k1; cases k1
        exact ⟨M', out, k2, k3, k4⟩
      rcases h with ⟨hno, h⟩ | ⟨A, Z, B, rfl, hA, hZ, hB, h⟩
      · obtain ⟨L1, L2, rfl⟩ := List.append_of_mem hmem
        have hfront := RunF.front (fun j hj oj oi hoj hoi => easy j (by simp [hj]) ((List.pairwise_append.1 hp).2.2 j hj i (by simp)) (fun ⟨e1, e2⟩ => hno ⟨by rw [← e1]; simp [hj], by rw [← e2]; simp⟩) oj oi hoj hoi) h
        obtain ⟨M', out, k2, k3, k4⟩ := step hfront
        exact go L1 L2 rfl ⟨M', out, k2, k3, .inl ⟨fun ⟨e1, e2⟩ => hno ⟨by simp at e1 ⊢; rcases e1 with e | e <;> simp [e], by simp at e2 ⊢; rcases e2 with e | e <;> simp [e]⟩, k4⟩⟩
      · rcases List.mem_append.1 hmem with hm | hm
        · -- one of those ahead of the two
          obtain ⟨A1, A2, rfl⟩ := List.append_of_mem hm
          have hic := hA i hm
          rw [List.append_assoc, List.cons_append] at h
          have hfront := RunF.front (fun j hj oj oi hoj hoi => easy j (by simp [hj]) (by
            have := List.pairwise_append.1 hp
            exact (List.pairwise_append.1 this.1).2.2 j hj i (by simp)) (fun ⟨_, e2⟩ => by omega) oj oi hoj hoi) h
          obtain ⟨M', out, k2, k3, k4⟩ := step hfront
          exact go A1 (A2 ++ c :: (Z ++ d :: B)) (by simp) ⟨M', out, k2, k3, .inr ⟨A1 ++ A2, Z, B, by simp, fun j hj => hA j (by simp at hj ⊢; rcases hj with h | h <;> simp [h]), hZ, hB, by rw [List.append_assoc]; exact k4⟩⟩
        · rcases List.mem_cons.1 hm with rfl | hm
          · -- the first of the two
            have h5 := RunF.append (RunF.imp (fun _ _ h => h.1) h)
            have hfront := RunF.front (i := i) (L1 := A ++ Z) (fun j hj oj oi hoj hoi => by
              rcases List.mem_append.1 hj with hj | hj
              · exact easy j (by simp [hj]) (hA j hj) (fun ⟨_, e2⟩ => by omega) oj oi hoj hoi
              · exact easyZ j (hZ j hj).1 (hZ j hj).2 oj oi hoj hoi) h5
            obtain ⟨M', out, k2, k3, k4⟩ := step hfront
            refine go A (Z ++ d :: B) rfl ⟨M', out, k2, k3, .inl ⟨fun ⟨e1, _⟩ => ?_, by rw [← List.append_assoc]; exact k4⟩⟩
            rcases List.mem_append.1 e1 with e | e
            · have := hA _ e; omega
            · rcases List.mem_append.1 e with e | e
              · have := hZ _ e; omega
              · rcases List.mem_cons.1 e with e | e
                · omega
                · have := hB _ e; omega
          · rcases List.mem_append.1 hm with hm | hm
            · -- one between the two
              obtain ⟨Z1, Z2, rfl⟩ := List.append_of_mem hm
              have hic := hZ i hm
              rw [show A ++ (Z1 ++ i :: Z2) = (A ++ Z1) ++ i :: Z2 by simp] at h
              have hpz := (List.pairwise_cons.1 (List.pairwise_append.1 hp).2.1).2
              have hfront := RunF.front (fun j hj oj oi hoj hoi => easy j (by
                rcases List.mem_append.1 hj with hj | hj <;> simp [hj]) (by
                rcases List.mem_append.1 hj with hj | hj
                · have := hA j hj; omega
                · exact (List.pairwise_append.1 (List.pairwise_append.1 hpz).1).2.2 j hj i (by simp)) (fun ⟨_, e2⟩ => by omega) oj oi hoj hoi) h
              obtain ⟨M', out, k2, k3, k4⟩ := step hfront
              exact go (A ++ c :: Z1) (Z2 ++ d :: B) (by simp) ⟨M', out, k2, k3, .inr ⟨A, Z1 ++ Z2, B, by simp, hA, fun j hj => hZ j (by simp at hj ⊢; rcases hj with h | h <;> simp [h]), hB, by rw [← List.append_assoc]; exact k4⟩⟩
            · rcases List.mem_cons.1 hm with rfl | hm
              · -- the second of the two
                have h5 := RunF.append (RunF.imp (fun _ _ h => h.2) h)
                have hfront := RunF.front (i := i) (L1 := A ++ Z) (fun j hj oj oi hoj hoi => easy j (by
                  rcases List.mem_append.1 hj with hj | hj <;> simp [hj]) (by
                  rcases List.mem_append.1 hj with hj | hj
                  · have := hA j hj; omega
                  · exact (hZ j hj).2) (fun ⟨e1, _⟩ => by
                  rcases List.mem_append.1 hj with hj | hj
                  · have := hA j hj; omega
                  · have := hZ j hj; omega) oj oi hoj hoi) h5
                obtain ⟨M', out, k2, k3, k4⟩ := step hfront
                rw [List.append_assoc] at k4
                have k5 := RunF.append (RunF.imp (fun _ _ h => RunF.front (i := c) (L1 := Z) (fun j hj oj oi hoj hoi => easyZ j (hZ j hj).1 (hZ j hj).2 oj oi hoj hoi) h) (RunF.split k4))
                refine go (A ++ c :: Z) B (by simp) ⟨M', out, k2, k3, .inl ⟨fun ⟨_, e2⟩ => ?_, by rw [List.append_assoc, List.cons_append]; exact k5⟩⟩
                rw [List.append_assoc, List.cons_append] at e2
                rcases List.mem_append.1 e2 with e | e
                · have := hA _ e; omega
                · rcases List.mem_cons.1 e with e | e
                  · omega
                  · rcases List.mem_append.1 e with e | e
                    · have := hZ _ e; omega
                    · have := hB _ e; omega
              · have hib := hB i hm
                have := hanc c ((ordOK3_at hok h2).2.2.2.1 hib)
                have hcn : listed.getD c false = false := (hL c (hlt c (by simp))).2 (by simp)
                rw [hcn] at this; cases this
theorem wp_region_run3 {cx : Cx} {id : Nat} {Q : Exit → Act → World → Prop} {M : List AB} {F : Nat → AV} {a : Act} {w : World} {flags ms : List Nat} {c z : Nat} (hm : cx.P.follows .mixedOrders = true)
    (hok : ordOK3 ops flags ms c (c + 1 + z) = true) (hcl : c + z + 2 ≤ ops.size) (h : RunF P ops cx.N (fun i => flags.getD i 0) (fun M F => RunF P ops cx.N (fun i => flags.getD i 0) K (c :: (c + 1 + z) :: List.range' (c + z + 2) (ops.size - (c + z + 2))) M F ∧ RunF P ops cx.N (fun i => flags.getD i 0) K ((c + 1 + z) :: c :: List.range' (c + z + 2) (ops.size - (c + z + 2))) M F) (List.range' 0 c ++ List.range' (c + 1) z) M F) (hs : SatF cx M F a w) (hP : cx.P = P)
    (hQ : ∀ M F a w, K M F → SatF cx M F a w → Q .normal a w) : (Code.region id ops true).wpIn (Fen cx.L) 0 cx.P Q a w := by
  subst hP
  refine wpIn_region_any hm ?_
  obtain ⟨h1, h2, β, h3, h4, h5⟩ := hs
  have hb : Below w.heap.size w w.drew := (Below.refl _ _).drew
  have he : Ev M β w M β w.drew := Ev.of_below hb
  have hL : List.range ops.size = List.range' 0 c ++ c :: (List.range' (c + 1) z ++ (c + 1 + z) :: List.range' (c + z + 2) (ops.size - (c + z + 2))) := by
    rw [List.range_eq_range']
    have e1 : ops.size = c + (z + ((ops.size - (c + z + 2)) + 1) + 1) := by omega
    conv => lhs; rw [e1]
    rw [← List.range'_append_1, Nat.zero_add, List.range'_succ, ← List.range'_append_1, List.range'_succ, show c + 1 + z + 1 = c + z + 2 by omega]
  refine RunF.anyD rfl rfl (by omega) hok (fun _ => rfl) hQ ops.size (List.range ops.size) _ M F a _ (by simp) (by simp) List.pairwise_lt_range (fun j hj => ?_) (fun j hj => by simpa using hj) (fun j oj _ hl => ?_) (.inr ⟨_, _, _, hL, fun j hj => by simp [List.mem_range'_1] at hj; exact hj, fun j hj => by simp [List.mem_range'_1] at hj; omega, fun j hj => by simp [List.mem_range'_1] at hj; omega, h⟩)
    ⟨h1, h2.ev h3 he, β, h3.quiet hb, h4.trans he, fun d => (h5 d).ev he⟩
  · simp [hj]
  · rcases Nat.lt_or_ge j ops.size with hj | hj <;> simp [hj] at hl
theorem Ix.app {fn : Nat → Nat} : ∀ {I J : List Nat} {l m : List Oper} {k n : List Nat}, Ix ops fn I l k → Ix ops fn J m n → Ix ops fn (I ++ J) (l ++ m) (k ++ n)
  | [], _, [], _, [], _, _, h => h
  | _ :: _, _, _ :: _, _, _ :: _, _, ⟨h1, h2, h3⟩, h => ⟨h1, h2, Ix.app h3 h⟩
  | [], _, _ :: _, _, _, _, h, _ => h.elim
  | [], _, [], _, _ :: _, _, h, _ => h.elim
  | _ :: _, _, [], _, _, _, h, _ => h.elim
  | _ :: _, _, _ :: _, _, [], _, h, _ => h.elim
theorem a_draw3 {S : Nat → Prop} {w0 : World} {M0 M : List AB} {β0 : Env} {L : Option Nat} {F : List (Nat × AV)} {Q : Exit → AS → Prop} {id : Nat} {l : List Oper} (hm : P.follows .mixedOrders = true) (fl : List Nat) (A Z B : List Oper) (x y : Oper) (ka kz kb : List Nat) (kx ky : Nat)
    (el : l = A ++ x :: (Z ++ y :: B)) (ef : fl = ka ++ kx :: (kz ++ ky :: kb)) (la : ka.length = A.length) (lz : kz.length = Z.length) (lb : kb.length = B.length) (hok : ordOK3 l.toArray fl (ancs l []) A.length (A.length + 1 + Z.length) = true)
    (h : RunX P l.toArray N (fun s => RunX P l.toArray N (fun s' => Q .normal s') (x :: y :: B) (some (kx :: ky :: kb)) s.M s.F ∧ RunX P l.toArray N (fun s' => Q .normal s') (y :: x :: B) (some (ky :: kx :: kb)) s.M s.F) (A ++ Z) (some (ka ++ kz)) M F) : AWp ⟨P, N, S, w0, M0, β0, L⟩ (.region id l.toArray true) ⟨M, F⟩ Q := by
  intro a w hs
  subst el ef
  have iA := ix_of A [] (x :: (Z ++ y :: B)) ka [] (kx :: (kz ++ ky :: kb)) la rfl
  simp only [List.nil_append] at iA
  have iZ := ix_of Z (A ++ [x]) (y :: B) kz (ka ++ [kx]) (ky :: kb) lz (by simp [la])
  simp only [List.append_assoc, List.cons_append, List.nil_append, List.length_append, List.length_cons, List.length_nil] at iZ
  have iB := ix_of B (A ++ x :: (Z ++ [y])) [] kb (ka ++ kx :: (kz ++ [ky])) [] lb (by simp [la, lz])
  simp only [List.append_assoc, List.cons_append, List.nil_append, List.append_nil, List.length_append, List.length_cons, List.length_nil] at iB
  have e2 : A.length + (Z.length + (0 + 1) + 1) = A.length + Z.length + 2 := by omega
  rw [e2] at iB
  have ex : (A ++ x :: (Z ++ y :: B)).toArray[A.length]? = some x := by simp
  have ey : (A ++ x :: (Z ++ y :: B)).toArray[A.length + 1 + Z.length]? = some y := by
    have : A.length + 1 + Z.length = (A ++ x :: Z).length := by simp; omega
    rw [this, show A ++ x :: (Z ++ y :: B) = (A ++ x :: Z) ++ y :: B by simp]
    simp only [List.getElem?_toArray]
    simp
  have fx : (ka ++ kx :: (kz ++ ky :: kb)).getD A.length 0 = kx := by
    rw [← la, List.getD_eq_getElem?_getD]; simp
  have fy : (ka ++ kx :: (kz ++ ky :: kb)).getD (A.length + 1 + Z.length) 0 = ky := by
    have : A.length + 1 + Z.length = (ka ++ kx :: kz).length := by simp [la, lz]; omega
    rw [this, show ka ++ kx :: (kz ++ ky :: kb) = (ka ++ kx :: kz) ++ ky :: kb by simp, List.getD_eq_getElem?_getD]
    simp
  have hF := Run.toFI (ops := (A ++ x :: (Z ++ y :: B)).toArray) (P := P) (N := N) _ _ _ ⟨M, F⟩ (iA.app iZ) h
  refine wp_region_run3 (P := P) (cx := ⟨P, N, S, w0, M0, β0, L⟩) (c := A.length) (z := Z.length) (K := fun M F => ∃ G, F = look G ∧ Q .normal ⟨M, G⟩) hm hok (by simp; omega) ?_ hs rfl (fun M F a w ⟨G, hG, hq⟩ hs => ⟨⟨M, G⟩, hq, by subst hG; exact hs⟩)
  refine RunF.imp ?_ hF
  rintro M1 F1 ⟨G, rfl, h1, h2⟩
  have hsz : (A ++ x :: (Z ++ y :: B)).toArray.size - (A.length + Z.length + 2) = B.length := by simp; omega
  rw [hsz]
  exact ⟨Run.toFI (ops := (A ++ x :: (Z ++ y :: B)).toArray) (P := P) (N := N) _ (x :: y :: B) (kx :: ky :: kb) ⟨M1, G⟩ ⟨ex, fx, ey, fy, iB⟩ h1, Run.toFI (ops := (A ++ x :: (Z ++ y :: B)).toArray) (P := P) (N := N) _ (y :: x :: B) (ky :: kx :: kb) ⟨M1, G⟩ ⟨ey, fy, ex, fx, iB⟩ h2⟩
end
end Go.Proofs.YtihakfihojickaaDoor
