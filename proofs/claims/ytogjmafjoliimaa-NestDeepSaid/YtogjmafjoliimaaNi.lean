/- NestDeep: the tokens and the nodes of blocks within blocks, in plain words. -/
import Derived.Test.YtogjmafjoliimaaNc
namespace Go.Proofs.Ytogjmafjoliimaa
open Go Go.RowKit

theorem dec_at (A B : List UInt8) (c : UInt8) (h : c.toNat < 128) : Utf8.decode ⟨(A ++ c :: B).toArray⟩ A.length = (c.toNat, 1) := by
  have hlt : A.length < (⟨(A ++ c :: B).toArray⟩ : ByteArray).size := by rw [← str_size]; simp
  have hg : (⟨(A ++ c :: B).toArray⟩ : ByteArray)[A.length]'hlt = c := by
    show (A ++ c :: B).toArray[A.length] = c
    simp
  have := decode_ascii _ _ hlt (by rw [hg]; exact h)
  rw [this, hg]
def chI (b : UInt8) : Int := b.toNat
theorem read_ascii : ∀ (B A : List UInt8) {S : ByteArray}, S = ⟨(A ++ B).toArray⟩ → (∀ b ∈ B, 14 ≤ b.toNat ∧ b.toNat < 128) → rdAt S A.length false = B.map chI
  | [], A, S, h, _ => by subst h; exact rdAt_end (by rw [← str_size]; simp)
  | c :: B, A, S, h, hb => by
    have hc := hb c List.mem_cons_self
    have hlt : A.length < S.size := by rw [h, ← str_size]; simp
    rw [rdAt_step hlt]
    have hd : Utf8.decode S A.length = (c.toNat, 1) := by rw [h]; exact dec_at A B c hc.2
    rw [hd]
    have e1 : ((c.toNat : Int) = 65279) = False := by simp; omega
    have e2 : ((c.toNat : Int) = 10) = False := by simp; omega
    have e3 : ((c.toNat : Int) = 13) = False := by simp; omega
    have e4 : ((c.toNat : Int) = 12) = False := by simp; omega
    have e5 : ((c.toNat : Int) = 0) = False := by simp; omega
    have ih := read_ascii B (A ++ [c]) (S := S) (by rw [h]; simp) fun b hb' => hb b (List.mem_cons_of_mem _ hb')
    simp only [e1, e2, e3, e4, e5, and_false, false_and, false_or, if_false, List.singleton_append, List.map_cons, decide_false]
    rw [List.length_append, List.length_singleton] at ih
    rw [ih]
    rfl
theorem readL_ascii (B : List UInt8) (h : ∀ b ∈ B, 14 ≤ b.toNat ∧ b.toNat < 128) : readL ⟨B.toArray⟩ = B.map chI := read_ascii B [] rfl h

/-- The tokens of what stands behind A. -/
def tkT (A B : List Int) : List Tk := (goAt (A ++ B).length (tStep (A ++ B)) A.length).1
theorem sg_mid (A : List Int) (x : Int) (B : List Int) : sg (A ++ x :: B) (A.length : Nat) = x := by
  rw [sg, dif_pos ⟨Int.natCast_nonneg _, by rw [Int.toNat_natCast]; simp⟩]
  simp
theorem sg_mid' (A : List Int) (x y : Int) (B : List Int) : sg (A ++ x :: y :: B) ((A.length : Int) + 1) = y := by
  have := sg_mid (A ++ [x]) y B
  rw [List.append_assoc, List.singleton_append, List.length_append, List.length_singleton] at this
  exact this
theorem cEnd_no {L : List Int} {i : Nat} (hi : i ≤ L.length) (h : sg L i ≠ 47) : cEnd L i = i := by
  rw [cEnd, goAt_stop hi (r := i) (by rw [cStep, if_neg (fun k => h k.1)])]
  rfl
theorem tkT_nil (A : List Int) : tkT A [] = [] := by
  rw [tkT, List.append_nil, goAt_stop (Nat.le_refl _) (r := ())]
  rw [tStep, cEnd_no (Nat.le_refl _) (by rw [sg_end (by omega)]; decide), if_pos (.inr (Nat.le_refl _))]
/-- A token that ends behind x :: C. -/
theorem tkT_step (A : List Int) (x : Int) (C B : List Int) (t : Tk) (h47 : x ≠ 47) (h0 : 0 ≤ x) (h : tokF (A ++ x :: (C ++ B)) A.length = (t, A.length + 1 + C.length)) : tkT A (x :: (C ++ B)) = t :: tkT (A ++ x :: C) B := by
  have hL : A ++ x :: (C ++ B) = (A ++ x :: C) ++ B := by simp
  have hlt : A.length < (A ++ x :: (C ++ B)).length := by simp
  have hc : cEnd (A ++ x :: (C ++ B)) A.length = A.length := cEnd_no (by omega) (by rw [sg_mid]; exact h47)
  have hs : tStep (A ++ x :: (C ++ B)) A.length = .inl ([t], A.length + 1 + C.length) := by
    rw [tStep, hc, if_neg (by rw [sg_mid]; omega), h]
  rw [tkT, goAt_go (tStep_goes _) (by omega) hs, tkT, ← hL]
  have hl2 : (A ++ x :: C).length = A.length + 1 + C.length := by simp; omega
  rw [hl2]
  rfl
theorem tok_sym (A B : List Int) (x : Int) (t : Tk) (hp : plI x < 9) (ht : t = tkK (kindsL.getD (plI x) 0) (if plI x < 6 then runesBytes [x] else ⟨#[]⟩)) : tokF (A ++ x :: B) A.length = (t, A.length + 1) := by
  rw [tokF, sg_mid, if_pos hp, ht]
theorem tkT_sym (A B : List Int) (x : Int) (t : Tk) (h47 : x ≠ 47) (h0 : 0 ≤ x) (hp : plI x < 9) (ht : t = tkK (kindsL.getD (plI x) 0) (if plI x < 6 then runesBytes [x] else ⟨#[]⟩)) : tkT A (x :: B) = t :: tkT (A ++ [x]) B :=
  tkT_step A x [] B t h47 h0 (tok_sym A B x t hp ht)
theorem tkT_white (A B : List Int) (y : Int) (hy : whiteF y = false) : tkT A (32 :: y :: B) = tkK 13 ⟨#[]⟩ :: tkT (A ++ [32]) (y :: B) := by
  refine tkT_step A 32 [] (y :: B) _ (by decide) (by decide) ?_
  show tokF (A ++ 32 :: (y :: B)) A.length = _
  have hw : wEnd (A ++ 32 :: y :: B) A.length = A.length + 1 := by
    have hlt : A.length ≤ (A ++ 32 :: y :: B).length := by simp
    have h1 : wStep (A ++ 32 :: y :: B) A.length = .inl ([], A.length + 1) := by rw [wStep, sg_mid, if_pos (by decide)]
    have h2 : wStep (A ++ 32 :: y :: B) (A.length + 1) = .inr (A.length + 1) := by
      rw [wStep, if_neg]
      have := sg_mid' A 32 y B
      rw [show (((A.length + 1 : Nat)) : Int) = (A.length : Int) + 1 by omega, this, hy]
      decide
    rw [wEnd, goAt_go (wStep_goes _) hlt h1, goAt_stop (by simp) h2]
    rfl
  rw [tokF, sg_mid, if_neg (by decide), if_pos (by decide), hw]
  rfl
/-- Letters, to what is no letter. -/
def lowI (x : Int) : Prop := 97 ≤ x ∧ x ≤ 122
theorem name_run : ∀ (ls A B : List Int), (∀ x ∈ ls, lowI x) → nameF (sg (A ++ ls ++ B) ((A.length + ls.length : Nat))) = false → sg (A ++ ls ++ B) ((A.length + ls.length : Nat)) ≠ 92 →
    goAt (A ++ ls ++ B).length (nameStep (A ++ ls ++ B)) A.length = (ls, some (A.length + ls.length))
  | [], A, B, _, h1, h2 => by
    refine goAt_stop (by simp) ?_
    rw [List.length_nil, Nat.add_zero] at h1 h2
    rw [nameStep, if_neg (by rw [h1]; decide), if_neg (by rw [escF, decide_eq_false h2]; simp)]
    rfl
  | x :: ls, A, B, hl, h1, h2 => by
    have hx := hl x List.mem_cons_self
    have hL : A ++ x :: ls ++ B = (A ++ [x]) ++ ls ++ B := by simp
    have hs : nameStep (A ++ x :: ls ++ B) A.length = .inl ([x], A.length + 1) := by
      have e : sg (A ++ x :: ls ++ B) (A.length : Nat) = x := by rw [List.append_assoc, List.cons_append]; exact sg_mid A x _
      have hn : nameF x = true := by
        have h3 : letF x = true := by rw [letF, decide_eq_true hx.1, decide_eq_true hx.2]; rfl
        rw [nameF, h3]; rfl
      rw [nameStep, e, if_pos hn]
    rw [goAt_go (nameStep_goes _) (by simp) hs]
    have hlen : (A ++ [x]).length = A.length + 1 := by simp
    have hlen2 : A.length + (x :: ls).length = (A ++ [x]).length + ls.length := by simp; omega
    rw [hlen2] at h1 h2 ⊢
    have ih := name_run ls (A ++ [x]) B (fun y hy => hl y (List.mem_cons_of_mem _ hy)) (by rw [← hL]; exact h1) (by rw [← hL]; exact h2)
    rw [hlen, ← hL] at ih
    rw [ih]
    rw [hlen]
    rfl
theorem pl_low {x : Int} (h : lowI x) : plI x = 9 := by
  unfold plI plainL
  have : ∀ c : Int, c ∈ [40, 91, 123, 41, 93, 125, 44, 58, 59] → decide (c = x) = false := fun c hc => by
    have hx := h
    unfold lowI at hx
    simp only [List.mem_cons, List.not_mem_nil, or_false] at hc
    rw [decide_eq_false_iff_not]
    omega
  rw [List.findIdx_eq_length_of_false (by simpa using this)]
  rfl
theorem tok_name (A ls B : List Int) (x : Int) (hl : ∀ y ∈ x :: ls, lowI y) : tokF (A ++ x :: (ls ++ B)) A.length = idtF (A ++ x :: (ls ++ B)) A.length := by
  have hx := hl x List.mem_cons_self
  have hx' := hx
  unfold lowI at hx'
  have e := sg_mid A x (ls ++ B)
  have hn : namesF (A ++ x :: (ls ++ B)) (A.length : Nat) = true := by
    rw [namesF, e, if_neg (by omega)]
    have h3 : letF x = true := by rw [letF, decide_eq_true hx.1, decide_eq_true hx.2]; rfl
    rw [h3]; rfl
  rw [tokF, e, pl_low hx, if_neg (by decide), if_neg (by rw [whiteF, decide_eq_false (by omega), decide_eq_false (by omega), decide_eq_false (by omega)]; decide), if_neg (by omega)]
  rw [if_neg (by rw [hashB, e, decide_eq_false (by omega)]; simp), if_neg (by rw [numB, e, digF, decide_eq_false (by omega : ¬ x = 43), decide_eq_false (by omega : ¬ x = 45), decide_eq_false (by omega : ¬ x = 46), decide_eq_false (by omega : ¬ x ≤ 57), Bool.and_false]; simp)]
  rw [if_neg (by rw [cdcB, e, decide_eq_false (by omega)]; simp), if_neg (by rw [cdoB, e, decide_eq_false (by omega)]; simp), if_neg (by rw [atB, e, decide_eq_false (by omega)]; simp), if_pos hn]
theorem tkT_ident (A ls B : List Int) (x : Int) (hl : ∀ y ∈ x :: ls, lowI y) (h1 : nameF (sg (A ++ x :: (ls ++ B)) ((A.length + 1 + ls.length : Nat))) = false) (h2 : sg (A ++ x :: (ls ++ B)) ((A.length + 1 + ls.length : Nat)) ≠ 92) (h3 : sg (A ++ x :: (ls ++ B)) ((A.length + 1 + ls.length : Nat)) ≠ 40) :
    tkT A (x :: (ls ++ B)) = tkK 1 (runesBytes (x :: ls)) :: tkT (A ++ x :: ls) B := by
  have hx := hl x List.mem_cons_self
  unfold lowI at hx
  refine tkT_step A x ls B _ (by omega) (by omega) ?_
  rw [tok_name A ls B x hl]
  have hL : A ++ x :: (ls ++ B) = A ++ (x :: ls) ++ B := by simp
  have hlen : A.length + 1 + ls.length = A.length + (x :: ls).length := by simp; omega
  rw [hlen] at h1 h2 h3 ⊢
  rw [hL] at h1 h2 h3 ⊢
  have hr := name_run (x :: ls) A B hl h1 h2
  have e1 : nameEnd (A ++ (x :: ls) ++ B) A.length = A.length + (x :: ls).length := by rw [nameEnd, hr]; rfl
  have e2 : nameAt (A ++ (x :: ls) ++ B) A.length = x :: ls := by rw [nameAt, hr]
  rw [idtF, e1, e2, if_neg h3]
theorem tkT_func (A B : List Int) : tkT A (102 :: 40 :: B) = tkK 2 ⟨#[102]⟩ :: tkT (A ++ [102, 40]) B := by
  refine tkT_step A 102 [40] B _ (by decide) (by decide) ?_
  show tokF (A ++ 102 :: ([] ++ 40 :: B)) A.length = _
  rw [tok_name A [] (40 :: B) 102 (fun y hy => by rw [List.mem_singleton.1 hy]; unfold lowI; omega)]
  have hL : A ++ 102 :: ([] ++ 40 :: B) = A ++ [102] ++ 40 :: B := by simp
  have h40 : sg (A ++ [102] ++ 40 :: B) ((A.length + ([102] : List Int).length : Nat)) = 40 := by
    have := sg_mid (A ++ [102]) 40 B
    rw [List.length_append] at this
    exact this
  rw [hL]
  have hr := name_run [102] A (40 :: B) (fun y hy => by rw [List.mem_singleton.1 hy]; unfold lowI; omega) (by rw [h40]; decide) (by rw [h40]; decide)
  have e1 : nameEnd (A ++ [102] ++ 40 :: B) A.length = A.length + ([102] : List Int).length := by rw [nameEnd, hr]; rfl
  have e2 : nameAt (A ++ [102] ++ 40 :: B) A.length = [102] := by rw [nameAt, hr]
  rw [idtF, e1, e2, if_pos h40, if_neg (by intro h; have := congrArg ByteArray.size h; revert this; decide)]
  have e3 : runesBytes [102] = ⟨#[102]⟩ := by rfl
  rw [e3]
  rfl
end Go.Proofs.Ytogjmafjoliimaa
