/- The reference's Parse of a style; walked. -/
import Derived.Test.YtfmafehogfikmaaGreatDoorp9
import Derived.Test.YtfmafehogfikmaaGreatDoorI7
namespace Go.Proofs.YtfmafehogfikmaaGreatDoor
open Go Go.RowKit
set_option maxRecDepth 20000

/- names that nobody may define -/
def fix4 (n : ByteArray) : Bool := decide (n = (⟨#[100, 101, 99, 105, 109, 97, 108]⟩ : ByteArray)) || decide (n = (⟨#[100, 105, 115, 99]⟩ : ByteArray)) || decide (n = (⟨#[115, 113, 117, 97, 114, 101]⟩ : ByteArray)) || decide (n = (⟨#[99, 105, 114, 99, 108, 101]⟩ : ByteArray))
theorem fix_own : nmO.all (fun x => xq fixN (vk x) == fix4 x) = true := by kernel_rfl
theorem fix_sub : (yZ fixN).all (fun x => nmO.any fun y => decide (x = y)) = true := by kernel_rfl
theorem fix_low : [(⟨#[100, 101, 99, 105, 109, 97, 108]⟩ : ByteArray), ⟨#[100, 105, 115, 99]⟩, ⟨#[115, 113, 117, 97, 114, 101]⟩, ⟨#[99, 105, 114, 99, 108, 101]⟩].all (fun x => xq ownN (vk x)) = true := by kernel_rfl
theorem fix_can (t : ByteArray) : xq fixN (vk (canF t)) = fix4 (canF t) := by
  rw [canF]
  cases h : xq ownN (vk t) with
  | true =>
    rw [if_pos rfl]
    rw [amg_own, List.any_eq_true] at h
    obtain ⟨x, hx, e⟩ := h
    rw [of_decide_eq_true e]
    exact eq_of_beq (List.all_eq_true.1 fix_own x hx)
  | false =>
    rw [if_neg Bool.false_ne_true]
    have h1 : xq fixN (vk t) = false := by
      rw [xq, List.any_eq_false]
      intro x hx e
      obtain ⟨y, hy, e2⟩ := List.any_eq_true.1 (List.all_eq_true.1 fix_sub x hx)
      rw [amg_own, List.any_eq_false] at h
      exact h y hy (by rw [← of_decide_eq_true e2]; exact e)
    have h2 : ∀ x, xq ownN (vk x) = true → t ≠ x := fun x hx e => by rw [e, hx] at h; cases h
    have h3 := List.all_eq_true.1 fix_low
    rw [h1, fix4, decide_eq_false (h2 _ (h3 _ (by simp))), decide_eq_false (h2 _ (h3 _ (by simp))), decide_eq_false (h2 _ (h3 _ (by simp))), decide_eq_false (h2 _ (h3 _ (by simp)))]
    rfl
theorem fix_nm {l : List Nd} (h : (nmF l).2 = true) : xq fixN (vk (nmF l).1) = fix4 (nmF l).1 := by
  rw [nmF] at h ⊢
  match hm : uW l, h with
  | [n], h =>
    rw [nmF1] at h ⊢
    split at h
    · rename_i hk
      rw [if_pos hk]
      split at h
      · cases h
      · rename_i hb
        rw [if_neg hb]; exact fix_can _
    · cases h
/- what the words leave -/
def invS (S : Sd) : Prop := S.symbolic = !S.syms.isEmpty ∧ S.additive = !S.sums.isEmpty ∧ S.symbols = [] ∧ S.weights = []
theorem symF1_len : ∀ (l : List Nd) (acc a : List ByteArray), yw l acc = some a → a.length = acc.length + l.length
  | [], acc, a, h => by cases h; rfl
  | n :: r, acc, a, h => by
    rw [yw] at h
    split at h
    · have := symF1_len r _ a h
      rw [List.length_append, List.length_singleton] at this
      rw [this, List.length_cons]; omega
    · cases h
theorem sumF1_len : ∀ (l : List (List Nd)) (ss : List ByteArray) (ws : List Int) (a : List ByteArray × List Int), zv l ss ws = some a → a.1.length = ss.length + l.length
  | [], ss, ws, a, h => by cases h; rfl
  | p :: r, ss, ws, a, h => by
    rw [zv] at h
    split at h
    · have := sumF1_len r _ _ a h
      rw [List.length_append, List.length_singleton] at this
      rw [this, List.length_cons]; omega
    · cases h
theorem ne_empty {α : Type} {l : List α} (h : 0 < l.length) : (!l.isEmpty) = true := by cases l with
  | nil => simp at h
  | cons => rfl
theorem inv_say (S : Sd) (d : Dc) (h : invS S) : invS (sayD S d).1 := by
  obtain ⟨i1, i2, i3, i4⟩ := h
  rw [sayD, yx]
  split
  · exact ⟨i1, i2, i3, i4⟩
  rename_i h0
  split
  · unfold zP qG
    repeat' split
    all_goals exact ⟨i1, i2, i3, i4⟩
  split
  · unfold wW
    repeat' split
    all_goals exact ⟨i1, i2, i3, i4⟩
  split
  · unfold xh
    repeat' split
    all_goals exact ⟨i1, i2, i3, i4⟩
  split
  · unfold xh
    repeat' split
    all_goals exact ⟨i1, i2, i3, i4⟩
  split
  · unfold zy
    repeat' split
    all_goals exact ⟨i1, i2, i3, i4⟩
  split
  · unfold padF
    repeat' split
    all_goals exact ⟨i1, i2, i3, i4⟩
  split
  · unfold falF
    repeat' split
    all_goals exact ⟨i1, i2, i3, i4⟩
  split
  · rw [z7]
    split
    · exact ⟨i1, i2, i3, i4⟩
    · rename_i a ha
      have := symF1_len _ _ _ ha
      exact ⟨(ne_empty (l := a) (by rw [List.length_nil] at this; omega)).symm, i2, i3, i4⟩
  split
  · rw [zH]
    split
    · exact ⟨i1, i2, i3, i4⟩
    · rename_i a ha
      have := sumF1_len _ _ _ _ ha
      rw [vO, w4] at this
      exact ⟨i1, (ne_empty (l := a.1) (by rw [List.length_nil, List.length_nil] at this; omega)).symm, i3, i4⟩
  · exact ⟨i1, i2, i3, i4⟩
theorem inv_all : ∀ (l : List Dc) (S : Sd), invS S → invS (v8 S l)
  | [], _, h => h
  | d :: r, S, h => inv_all r _ (inv_say S d h)
theorem inv_0 (n : ByteArray) : invS (sd0 n) := ⟨rfl, rfl, rfl, rfl⟩
theorem hE_of : ∀ S : Sd, S.symbols = [] → S.syms = [] → { S with symbols := S.syms } = S
  | ⟨_, _, _, _, _, _, _, _, _, _, _, _, _, _, _, _, _, _, _, _, _⟩, rfl, rfl => rfl
def zDr : AB := .box 38 [.val (.string ⟨#[]⟩), .val (.string ⟨#[]⟩), .val (.int .i64 0), .val (.slice none 0 0), .val (.slice none 0 0), .val (.string ⟨#[]⟩), .val (.string ⟨#[]⟩), .val (.string ⟨#[]⟩), .val (.string ⟨#[]⟩), .val (.bool false), .val (.slice none 0 0), .val (.int .i64 0), .val (.string ⟨#[]⟩), .val (.string ⟨#[]⟩), .val (.string ⟨#[]⟩), .val (.int .i64 0)]
def endR (S : Sd) : Sd × Int :=
  if S.system = vX ∧ (0 < S.syms.length ∨ 0 < S.sums.length) then (zSd, 2) else
  if yU (xk S) then (xk S, 0) else (zSd, 2)
theorem end_eq {S : Sd} (h : invS S) : endP S = endR S := by
  obtain ⟨i1, i2, _, _⟩ := h
  rw [endP, endR]
  have e : ((S.symbolic || S.additive) = true) ↔ (0 < S.syms.length ∨ 0 < S.sums.length) := by
    rw [i1, i2, Bool.or_eq_true]
    cases S.syms <;> cases S.sums <;> simp
  simp only [e]
set_option maxHeartbeats 16000000 in
theorem rparse_ok (r : Rl) (h : RlOk r) : uI Tryz.prog 7 [rlA r] (.tup [dfA (ki r).1, .val (.int .i64 (ki r).2)]) := by
  obtain ⟨pz, pt, dl, dz, dt, nz, s1, s2, s3, s4, s5⟩ := h
  have hdm : (r.decls.map dcD).length = r.decls.length := List.length_map _
  refine uP Tryz.func7 Tryz.ntmps7 rfl rfl rfl fun S w => ?_
  by_cases hat : r.at_ = csS
  · cases hbk : r.blk with
    | false =>
      rw [show ki r = (zSd, 1) from if_neg (by rw [hbk]; rintro ⟨_, h⟩; cases h)]
      repeat (first | refine ue ?_ | refine uc ?_ | refine ud ?_ | refine uf ?_ | (refine ug ?_; first | refine uh tab_ok rfl rfl rfl rfl byE rfl ?_ | refine uJ tab_ok rfl rfl rfl rfl rfl ?_ | refine vp tab_ok rfl rfl rfl rfl rfl ?_ | refine ux tab_ok rfl rfl rfl rfl rfl rfl byC (by first | exact fun _ => trivial | (intro h; simp at h; omega)) rfl ?_ | refine vd tab_ok rfl rfl rfl rfl rfl rfl byC rfl ?_ | refine vI rfl rfl rfl rfl rfl rfl rfl rfl ?_))
      refine uA rfl (fun _ => ?_) (fun hno => ?_)
      · repeat (first | refine ue ?_ | refine uc ?_ | refine ud ?_ | refine uk ?_ | refine un ?_ | refine uf ?_ | (refine ug ?_; first | refine uh tab_ok rfl rfl rfl rfl byE rfl ?_ | refine uM tab_ok rfl rfl rfl rfl ?_ | refine uU tab_ok rfl rfl rfl rfl rfl rfl ?_))
        all_goals exact vU tab_ok byO rfl rfl rfl rfl rfl rfl rfl (Sub.agg (by repeat' first | exact trivial | exact Sub.refl _ | exact Sub.nil _ | refine Sub.agg ?_ | apply And.intro)) (Sub.refl _)
      · exfalso
        simp [hbk] at hno
    | true =>
      rw [show ki r = (if (nmF r.pre).2 && !xq fixN (vk (nmF r.pre).1) then endP (v8 (sd0 (nmF r.pre).1) r.decls) else (zSd, 2)) from if_pos ⟨hat, hbk⟩]
      repeat (first | refine ue ?_ | refine uc ?_ | refine ud ?_ | refine uf ?_ | (refine ug ?_; first | refine uh tab_ok rfl rfl rfl rfl byE rfl ?_ | refine uJ tab_ok rfl rfl rfl rfl rfl ?_ | refine vp tab_ok rfl rfl rfl rfl rfl ?_ | refine ux tab_ok rfl rfl rfl rfl rfl rfl byC (by first | exact fun _ => trivial | (intro h; simp at h; omega)) rfl ?_ | refine vd tab_ok rfl rfl rfl rfl rfl rfl byC rfl ?_ | refine vI rfl rfl rfl rfl rfl rfl rfl rfl ?_))
      refine uA rfl (fun hyes => ?_) (fun _ => ?_)
      · exfalso
        rw [hbk] at hyes
        simp only [show r.at_ = ⟨#[99, 111, 117, 110, 116, 101, 114, 45, 115, 116, 121, 108, 101]⟩ from hat] at hyes
        simp at hyes
      repeat (first | refine ue ?_ | refine ud ?_ | refine uj ?_ | (refine ug ?_; first | refine uh tab_ok rfl rfl rfl rfl byE rfl ?_ | refine uJ tab_ok rfl rfl rfl rfl rfl ?_))
      have hpl := u7 r.pre
      refine uw (rname_ok r.pre (by omega) pt) call12 rfl rfl ⟨Sub.refl _, trivial⟩ rfl rfl rfl rfl ?_
      repeat (first | refine ue ?_ | refine uc ?_ | refine ud ?_ | refine uf ?_ | (refine ug ?_; first | refine uh tab_ok rfl rfl rfl rfl byE rfl ?_ | refine ux tab_ok rfl rfl rfl rfl rfl rfl byC (by first | exact fun _ => trivial | (intro h; simp at h; omega)) rfl ?_ | refine vI rfl rfl rfl rfl rfl rfl rfl rfl ?_))
      refine uA rfl (fun hyes => ?_) (fun hno => ?_)
      · have e : ((nmF r.pre).2 && !xq fixN (vk (nmF r.pre).1)) = false := by
          cases h1 : (nmF r.pre).2 with
          | false => rfl
          | true =>
            rw [h1] at hyes
            rw [fix_nm h1, show fix4 (nmF r.pre).1 = true by simpa [fix4, or_assoc] using hyes]; rfl
        rw [e, if_neg Bool.false_ne_true]
        repeat (first | refine ue ?_ | refine uc ?_ | refine ud ?_ | refine uk ?_ | refine un ?_ | refine uf ?_ | (refine ug ?_; first | refine uh tab_ok rfl rfl rfl rfl byE rfl ?_ | refine uM tab_ok rfl rfl rfl rfl ?_ | refine uU tab_ok rfl rfl rfl rfl rfl rfl ?_))
        all_goals exact vU tab_ok byO rfl rfl rfl rfl rfl rfl rfl (Sub.agg (by repeat' first | exact trivial | exact Sub.refl _ | exact Sub.nil _ | refine Sub.agg ?_ | apply And.intro)) (Sub.refl _)
      have e : ((nmF r.pre).2 && !xq fixN (vk (nmF r.pre).1)) = true := by
        cases h1 : (nmF r.pre).2 with
        | false => rw [h1] at hno; simp at hno
        | true =>
          rw [h1] at hno
          rw [fix_nm h1, show fix4 (nmF r.pre).1 = false by simpa [fix4, and_assoc] using hno]; rfl
      rw [e, if_pos rfl, end_eq (inv_all _ _ (inv_0 _))]
      obtain ⟨nm, hnm⟩ : ∃ nm, nm = (nmF r.pre).1 := ⟨_, rfl⟩
      rw [← hnm] at s1 s2 s3 s4 s5 ⊢
      repeat (first | refine ue ?_ | refine ud ?_ | refine uj ?_ | (refine ug ?_; first | refine uh tab_ok rfl rfl rfl rfl byE rfl ?_))
      refine uw (zJ nm yz []) ko rfl rfl ⟨Sub.refl _, Sub.refl _, Sub.nil _, trivial⟩ rfl rfl rfl rfl ?_
      repeat (first | refine ue ?_ | refine uc ?_ | refine um ?_ | refine ud ?_ | refine uf ?_ | (refine ug ?_; first | refine uh tab_ok rfl rfl rfl rfl byE rfl ?_ | refine vp tab_ok rfl rfl rfl rfl rfl ?_ | refine uU tab_ok rfl rfl rfl rfl rfl rfl ?_))
      refine uV (σ := {i : Nat // i ≤ r.decls.length}) (fun x => [.box 37 (rlC r), zDr, rsB (v8 (sd0 nm) (r.decls.take x.1))]) (fun x => [(1, .ptr 0 0), (2, .ptr 1 0), (6, .ptr 2 0), (7, .val (.int .i64 x.1))]) (fun x => r.decls.length - x.1) ⟨0, Nat.zero_le _⟩ (uy byV byV) ?_
      rintro ⟨i, hi⟩
      dsimp only
      repeat (first | refine ue ?_ | refine uc ?_ | refine ud ?_ | refine uf ?_ | (refine ug ?_; first | refine uG tab_ok rfl rfl rfl rfl rfl rfl rfl ?_ | refine uh tab_ok rfl rfl rfl rfl byE rfl ?_ | refine uJ tab_ok rfl rfl rfl rfl rfl ?_))
      refine uo rfl (fun hlt => ?_) (fun hge => ?_)
      · have hlt : i < r.decls.length := by omega
        have hmem : r.decls[i] ∈ r.decls := List.getElem_mem hlt
        have h64 := said_all (r.decls.take i) (sd0 nm) (by show 0 < 64; omega)
        have hsay := rsays_ok (v8 (sd0 nm) (r.decls.take i)) r.decls[i].value (dz _ hmem) (dt _ hmem) (by omega) r.decls[i].name
        repeat (first | refine ue ?_ | refine um ?_ | refine uj ?_)
        refine a_draw vM (List.replicate 13 1 ++ [2]) (by kernel_rfl) ?_
        repeat (first | (refine ug ?_; first | refine uh tab_ok rfl rfl rfl rfl byE rfl ?_ | refine uJ tab_ok rfl rfl rfl rfl rfl ?_ | refine vf tab_ok rfl rfl rfl rfl rfl rfl rfl (by first | exact ⟨by omega, by omega⟩ | (simp; omega)) rfl rfl ?_))
        try simp only [Int.toNat_natCast]
        try simp only [Int.toNat_natCast]
        refine vr [2] hsay call22 rfl rfl ⟨rfl, trivial⟩ (by decide) ⟨Sub.refl _, Sub.refl _, Sub.refl _, trivial⟩ rfl rfl rfl rfl rfl rfl rfl ?_
        repeat (first | refine uc ?_ | refine ud ?_ | refine uf ?_ | refine vG ?_ | (refine ug ?_; first | refine uh tab_ok rfl rfl rfl rfl byE rfl ?_))
        refine ⟨⟨i + 1, hlt⟩, by dsimp only; omega, ?_⟩
        dsimp only
        rw [sayAll_succ _ _ hlt]
        exact uy byV byV
      have : i = r.decls.length := by omega
      subst this
      rw [List.take_length]
      have hinv := inv_all r.decls _ (inv_0 nm)
      generalize v8 (sd0 nm) r.decls = S at s1 s2 s3 s4 s5 hinv ⊢
      obtain ⟨_, _, hsy, hwe⟩ := hinv
      repeat (first | refine ue ?_ | refine uC ?_)
      refine ud ?_
      repeat (first | refine ue ?_ | refine uf ?_ | (refine ug ?_; first | refine uh tab_ok rfl rfl rfl rfl byE rfl ?_ | refine uJ tab_ok rfl rfl rfl rfl rfl ?_ | refine vp tab_ok rfl rfl rfl rfl rfl ?_ | refine uM tab_ok rfl rfl rfl rfl ?_ | refine uB rfl rfl rfl rfl rfl rfl rfl ?_))
      refine ud ?_
      repeat (first | refine ue ?_ | refine uc ?_ | refine um ?_ | refine uf ?_ | (refine ug ?_; first | refine uh tab_ok rfl rfl rfl rfl byE rfl ?_ | refine uJ tab_ok rfl rfl rfl rfl rfl ?_))
      by_cases ha : S.system = wE
      · have hx : ¬ S.system = vX := by rw [ha]; decide
        rw [show endR S = if yU (xk S) then (xk S, 0) else (zSd, 2) from if_neg (fun h => hx h.1), show xk S = { S with symbols := S.sums, weights := S.wts } from if_pos ha]
        repeat (first | refine uc ?_ | refine ud ?_ | refine uf ?_ | (refine ug ?_; first | refine uh tab_ok rfl rfl rfl rfl byE rfl ?_))
        refine uo rfl (fun _ => ?_) (fun h => absurd ha h)
        refine a_draw3 vM _ [_, _, _, _, _, _, _] [_] [_, _] _ _ [0, 0, 0, 1, 0, 0, 0] [0] [0, 2] 1 2 rfl rfl rfl rfl rfl (by kernel_rfl) ?_
        repeat (first | refine vG ?_ | (refine ug ?_; first | refine uh tab_ok rfl rfl rfl rfl byE rfl ?_ | refine uJ tab_ok rfl rfl rfl rfl rfl ?_ | refine uB rfl rfl rfl rfl rfl rfl rfl ?_))
        refine ⟨?_, ?_⟩
        · repeat (first | refine ue ?_ | refine ud ?_ | refine vG ?_ | (refine ug ?_; first | refine uh tab_ok rfl rfl rfl rfl byE rfl ?_ | refine uJ tab_ok rfl rfl rfl rfl rfl ?_ | refine uM tab_ok rfl rfl rfl rfl ?_))
          refine uw (rmay9_ok { S with symbols := S.sums, weights := S.wts } s2 s3 s4) call23 rfl rfl ⟨Sub.refl _, trivial⟩ rfl rfl rfl rfl ?_
          cases hm : yU { S with symbols := S.sums, weights := S.wts } with
          | true =>
            rw [if_pos rfl]
            repeat (first | refine ue ?_ | refine uc ?_ | refine ud ?_ | refine uk ?_ | refine uj ?_ | refine uf ?_ | (refine ug ?_; first | refine uh tab_ok rfl rfl rfl rfl byE rfl ?_ | refine uJ tab_ok rfl rfl rfl rfl rfl ?_ | refine uM tab_ok rfl rfl rfl rfl ?_) | refine ur rfl ?_)
            all_goals exact vU tab_ok byO rfl rfl rfl rfl rfl rfl rfl (Sub.refl _) (Sub.refl _)
          | false =>
            rw [if_neg Bool.false_ne_true]
            repeat (first | refine ue ?_ | refine uc ?_ | refine ud ?_ | refine uk ?_ | refine un ?_ | refine uf ?_ | (refine ug ?_; first | refine uh tab_ok rfl rfl rfl rfl byE rfl ?_ | refine uM tab_ok rfl rfl rfl rfl ?_ | refine uU tab_ok rfl rfl rfl rfl rfl rfl ?_) | refine uq rfl ?_)
            all_goals exact vU tab_ok byO rfl rfl rfl rfl rfl rfl rfl (Sub.agg (by repeat' first | exact trivial | exact Sub.refl _ | exact Sub.nil _ | refine Sub.agg ?_ | apply And.intro)) (Sub.refl _)
        · repeat (first | refine ue ?_ | refine ud ?_ | refine vG ?_ | (refine ug ?_; first | refine uh tab_ok rfl rfl rfl rfl byE rfl ?_ | refine uJ tab_ok rfl rfl rfl rfl rfl ?_ | refine uM tab_ok rfl rfl rfl rfl ?_))
          refine uw (rmay9_ok { S with symbols := S.sums, weights := S.wts } s2 s3 s4) call23 rfl rfl ⟨Sub.refl _, trivial⟩ rfl rfl rfl rfl ?_
          cases hm : yU { S with symbols := S.sums, weights := S.wts } with
          | true =>
            rw [if_pos rfl]
            repeat (first | refine ue ?_ | refine uc ?_ | refine ud ?_ | refine uk ?_ | refine uj ?_ | refine uf ?_ | (refine ug ?_; first | refine uh tab_ok rfl rfl rfl rfl byE rfl ?_ | refine uJ tab_ok rfl rfl rfl rfl rfl ?_ | refine uM tab_ok rfl rfl rfl rfl ?_) | refine ur rfl ?_)
            all_goals exact vU tab_ok byO rfl rfl rfl rfl rfl rfl rfl (Sub.refl _) (Sub.refl _)
          | false =>
            rw [if_neg Bool.false_ne_true]
            repeat (first | refine ue ?_ | refine uc ?_ | refine ud ?_ | refine uk ?_ | refine un ?_ | refine uf ?_ | (refine ug ?_; first | refine uh tab_ok rfl rfl rfl rfl byE rfl ?_ | refine uM tab_ok rfl rfl rfl rfl ?_ | refine uU tab_ok rfl rfl rfl rfl rfl rfl ?_) | refine uq rfl ?_)
            all_goals exact vU tab_ok byO rfl rfl rfl rfl rfl rfl rfl (Sub.agg (by repeat' first | exact trivial | exact Sub.refl _ | exact Sub.nil _ | refine Sub.agg ?_ | apply And.intro)) (Sub.refl _)
      by_cases hx : S.system = vX
      · have hsm : (S.syms.map sF).length = S.syms.length := List.length_map _
        have hum : (S.sums.map sF).length = S.sums.length := List.length_map _
        repeat (first | refine uc ?_ | refine ud ?_ | refine uf ?_ | (refine ug ?_; first | refine uh tab_ok rfl rfl rfl rfl byE rfl ?_))
        refine uo rfl (fun h => absurd h ha) (fun _ => ?_)
        repeat (first | refine ue ?_ | refine uc ?_ | refine ud ?_ | refine uf ?_ | (refine ug ?_; first | refine uh tab_ok rfl rfl rfl rfl byE rfl ?_))
        refine uo rfl (fun _ => ?_) (fun h => absurd hx h)
        by_cases hn : 0 < S.syms.length
        · rw [show endR S = (zSd, 2) from if_pos ⟨hx, .inl hn⟩]
          repeat (first | refine ue ?_ | refine uc ?_ | refine ud ?_ | refine uk ?_ | refine un ?_ | refine uu ?_ | refine uf ?_ | (refine ug ?_; first | refine uG tab_ok rfl rfl rfl rfl rfl rfl rfl ?_ | refine uh tab_ok rfl rfl rfl rfl byE rfl ?_ | refine uJ tab_ok rfl rfl rfl rfl rfl ?_ | refine uM tab_ok rfl rfl rfl rfl ?_ | refine uU tab_ok rfl rfl rfl rfl rfl rfl ?_ | refine uB rfl rfl rfl rfl rfl rfl rfl ?_) | refine uq rfl ?_ | refine uN rfl rfl (congrArg (fun b => AV.val (.bool b)) (decide_eq_true (by omega))) rfl rfl rfl rfl ?_ | refine va rfl rfl (congrArg (fun b => AV.val (.bool b)) (decide_eq_true (by omega))) rfl rfl rfl ?_)
          all_goals exact vU tab_ok byO rfl rfl rfl rfl rfl rfl rfl (Sub.agg (by repeat' first | exact trivial | exact Sub.refl _ | exact Sub.nil _ | refine Sub.agg ?_ | apply And.intro)) (Sub.refl _)
        by_cases hn2 : 0 < S.sums.length
        · rw [show endR S = (zSd, 2) from if_pos ⟨hx, .inr hn2⟩]
          repeat (first | refine ue ?_ | refine uc ?_ | refine ud ?_ | refine uf ?_ | (refine ug ?_; first | refine uG tab_ok rfl rfl rfl rfl rfl rfl rfl ?_ | refine uh tab_ok rfl rfl rfl rfl byE rfl ?_ | refine uJ tab_ok rfl rfl rfl rfl rfl ?_ | refine uB rfl rfl rfl rfl rfl rfl rfl ?_) | refine r_g rfl rfl (congrArg (fun b => AV.val (.bool b)) (decide_eq_false (by omega))) ?_ | refine uD rfl rfl (congrArg (fun b => AV.val (.bool b)) (decide_eq_false (by omega))) rfl rfl rfl rfl ?_)
          refine uo rfl (fun _ => ?_) (fun h => absurd (by omega) h)
          repeat (first | refine ue ?_ | refine uc ?_ | refine ud ?_ | refine uk ?_ | refine un ?_ | refine uu ?_ | refine uf ?_ | (refine ug ?_; first | refine uh tab_ok rfl rfl rfl rfl byE rfl ?_ | refine uM tab_ok rfl rfl rfl rfl ?_ | refine uU tab_ok rfl rfl rfl rfl rfl rfl ?_))
          all_goals exact vU tab_ok byO rfl rfl rfl rfl rfl rfl rfl (Sub.agg (by repeat' first | exact trivial | exact Sub.refl _ | exact Sub.nil _ | refine Sub.agg ?_ | apply And.intro)) (Sub.refl _)
        · have hse : S.syms = [] := List.length_eq_zero_iff.1 (by omega)
          have hE : xk S = S := by
            rw [xk, if_neg ha]
            exact hE_of S hsy hse
          rw [show endR S = if yU (xk S) then (xk S, 0) else (zSd, 2) from if_neg (fun h => by omega), hE]
          repeat (first | refine ue ?_ | refine uc ?_ | refine ud ?_ | refine uf ?_ | (refine ug ?_; first | refine uG tab_ok rfl rfl rfl rfl rfl rfl rfl ?_ | refine uh tab_ok rfl rfl rfl rfl byE rfl ?_ | refine uJ tab_ok rfl rfl rfl rfl rfl ?_ | refine uB rfl rfl rfl rfl rfl rfl rfl ?_) | refine r_g rfl rfl (congrArg (fun b => AV.val (.bool b)) (decide_eq_false (by omega))) ?_ | refine uD rfl rfl (congrArg (fun b => AV.val (.bool b)) (decide_eq_false (by omega))) rfl rfl rfl rfl ?_)
          refine uo rfl (fun h => absurd h (by omega)) (fun _ => ?_)
          repeat (first | refine ue ?_ | refine ud ?_ | refine uj ?_ | (refine ug ?_; first | refine uJ tab_ok rfl rfl rfl rfl rfl ?_))
          refine uw (rmay9_ok S (by rw [hsy]; exact Nat.zero_le _) s5 s4) call23 rfl rfl ⟨Sub.refl _, trivial⟩ rfl rfl rfl rfl ?_
          cases hm : yU S with
          | true =>
            rw [if_pos rfl]
            repeat (first | refine ue ?_ | refine uc ?_ | refine ud ?_ | refine uk ?_ | refine uj ?_ | refine uf ?_ | (refine ug ?_; first | refine uh tab_ok rfl rfl rfl rfl byE rfl ?_ | refine uJ tab_ok rfl rfl rfl rfl rfl ?_ | refine uM tab_ok rfl rfl rfl rfl ?_) | refine ur rfl ?_)
            all_goals exact vU tab_ok byO rfl rfl rfl rfl rfl rfl rfl (Sub.refl _) (Sub.refl _)
          | false =>
            rw [if_neg Bool.false_ne_true]
            repeat (first | refine ue ?_ | refine uc ?_ | refine ud ?_ | refine uk ?_ | refine un ?_ | refine uf ?_ | (refine ug ?_; first | refine uh tab_ok rfl rfl rfl rfl byE rfl ?_ | refine uM tab_ok rfl rfl rfl rfl ?_ | refine uU tab_ok rfl rfl rfl rfl rfl rfl ?_) | refine uq rfl ?_)
            all_goals exact vU tab_ok byO rfl rfl rfl rfl rfl rfl rfl (Sub.agg (by repeat' first | exact trivial | exact Sub.refl _ | exact Sub.nil _ | refine Sub.agg ?_ | apply And.intro)) (Sub.refl _)
      · rw [show endR S = if yU (xk S) then (xk S, 0) else (zSd, 2) from if_neg (fun h => hx h.1), show xk S = { S with symbols := S.syms } from if_neg ha]
        repeat (first | refine uc ?_ | refine ud ?_ | refine uf ?_ | (refine ug ?_; first | refine uh tab_ok rfl rfl rfl rfl byE rfl ?_))
        refine uo rfl (fun h => absurd h ha) (fun _ => ?_)
        repeat (first | refine ue ?_ | refine uc ?_ | refine ud ?_ | refine uf ?_ | (refine ug ?_; first | refine uh tab_ok rfl rfl rfl rfl byE rfl ?_))
        refine uo rfl (fun h => absurd h hx) (fun _ => ?_)
        repeat (first | refine ue ?_ | refine ud ?_ | refine uf ?_ | (refine ug ?_; first | refine uh tab_ok rfl rfl rfl rfl byE rfl ?_ | refine uJ tab_ok rfl rfl rfl rfl rfl ?_ | refine uM tab_ok rfl rfl rfl rfl ?_ | refine uB rfl rfl rfl rfl rfl rfl rfl ?_))
        refine uw (rmay9_ok { S with symbols := S.syms } s1 s5 s4) call23 rfl rfl ⟨Sub.refl _, trivial⟩ rfl rfl rfl rfl ?_
        cases hm : yU { S with symbols := S.syms } with
        | true =>
          rw [if_pos rfl]
          repeat (first | refine ue ?_ | refine uc ?_ | refine ud ?_ | refine uk ?_ | refine uj ?_ | refine uf ?_ | (refine ug ?_; first | refine uh tab_ok rfl rfl rfl rfl byE rfl ?_ | refine uJ tab_ok rfl rfl rfl rfl rfl ?_ | refine uM tab_ok rfl rfl rfl rfl ?_) | refine ur rfl ?_)
          all_goals exact vU tab_ok byO rfl rfl rfl rfl rfl rfl rfl (Sub.refl _) (Sub.refl _)
        | false =>
          rw [if_neg Bool.false_ne_true]
          repeat (first | refine ue ?_ | refine uc ?_ | refine ud ?_ | refine uk ?_ | refine un ?_ | refine uf ?_ | (refine ug ?_; first | refine uh tab_ok rfl rfl rfl rfl byE rfl ?_ | refine uM tab_ok rfl rfl rfl rfl ?_ | refine uU tab_ok rfl rfl rfl rfl rfl rfl ?_) | refine uq rfl ?_)
          all_goals exact vU tab_ok byO rfl rfl rfl rfl rfl rfl rfl (Sub.agg (by repeat' first | exact trivial | exact Sub.refl _ | exact Sub.nil _ | refine Sub.agg ?_ | apply And.intro)) (Sub.refl _)
  · rw [show ki r = (zSd, 1) from if_neg (fun h => hat h.1)]
    have hat2 : ¬ r.at_ = ⟨#[99, 111, 117, 110, 116, 101, 114, 45, 115, 116, 121, 108, 101]⟩ := hat
    repeat (first | refine ue ?_ | refine uc ?_ | refine ud ?_ | refine uf ?_ | (refine ug ?_; first | refine uh tab_ok rfl rfl rfl rfl byE rfl ?_ | refine uJ tab_ok rfl rfl rfl rfl rfl ?_ | refine vp tab_ok rfl rfl rfl rfl rfl ?_ | refine ux tab_ok rfl rfl rfl rfl rfl rfl byC (by first | exact fun _ => trivial | (intro h; simp at h; omega)) rfl ?_ | refine vd tab_ok rfl rfl rfl rfl rfl rfl byC rfl ?_ | refine vI rfl rfl rfl rfl rfl rfl rfl rfl ?_))
    refine uA rfl (fun _ => ?_) (fun hno => ?_)
    · repeat (first | refine ue ?_ | refine uc ?_ | refine ud ?_ | refine uk ?_ | refine un ?_ | refine uf ?_ | (refine ug ?_; first | refine uh tab_ok rfl rfl rfl rfl byE rfl ?_ | refine uM tab_ok rfl rfl rfl rfl ?_ | refine uU tab_ok rfl rfl rfl rfl rfl rfl ?_))
      all_goals exact vU tab_ok byO rfl rfl rfl rfl rfl rfl rfl (Sub.agg (by repeat' first | exact trivial | exact Sub.refl _ | exact Sub.nil _ | refine Sub.agg ?_ | apply And.intro)) (Sub.refl _)
    · exfalso
      simp [hat2] at hno
end Go.Proofs.YtfmafehogfikmaaGreatDoor
