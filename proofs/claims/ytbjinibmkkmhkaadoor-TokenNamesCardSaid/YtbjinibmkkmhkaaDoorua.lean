/- Names with escapes, plain. -/
import Derived.Test.YtbjinibmkkmhkaaDooru8
namespace Go.Proofs.YtbjinibmkkmhkaaDoor
open Go Go.RowKit
set_option maxRecDepth 20000

def dgs : Nat → Nat → List Nat
  | 0, _ => []
  | f + 1, n => if n = 0 then [] else dgs f (n / 16) ++ [n % 16]
theorem dgs_lt : ∀ f n, ∀ d ∈ dgs f n, d < 16
  | 0, _, _, h => by cases h
  | f + 1, n, d, h => by
    rw [dgs] at h
    split at h
    · cases h
    · rw [List.mem_append, List.mem_singleton] at h
      rcases h with h | rfl
      · exact dgs_lt f _ d h
      · omega
theorem dgs_len : ∀ f n, (dgs f n).length ≤ f
  | 0, _ => Nat.le_refl _
  | f + 1, n => by
    rw [dgs]
    split
    · exact Nat.zero_le _
    · rw [List.length_append]
      have := dgs_len f (n / 16)
      simp only [List.length_singleton]; omega
theorem dgs_zero : ∀ f, dgs f 0 = []
  | 0 => rfl
  | f + 1 => by rw [dgs, if_pos rfl]
theorem dgs_pos {f n : Nat} (h : 0 < n) (hf : 0 < f) : dgs f n ≠ [] := by
  cases f with
  | zero => omega
  | succ f => rw [dgs, if_neg (by omega)]; simp
def foldD : List Nat → Int → Int
  | [], a => a
  | d :: l, a => foldD l (a * 16 + (d : Int))
theorem foldD_app (b : List Nat) : ∀ (l : List Nat) (a : Int), foldD (l ++ b) a = foldD b (foldD l a)
  | [], _ => rfl
  | d :: l, a => foldD_app b l _
theorem dgs_fold : ∀ f n, n < 16 ^ f → foldD (dgs f n) 0 = (n : Int)
  | 0, n, h => by
    have : n = 0 := by omega
    subst this; rfl
  | f + 1, n, h => by
    rw [dgs]
    split
    · rename_i h0; subst h0; rfl
    · have := dgs_fold f (n / 16) (by rw [Nat.pow_succ] at h; omega)
      rw [foldD_app, this]
      show ((n / 16 : Nat) : Int) * 16 + ((n % 16 : Nat) : Int) = n
      omega
def hxC (d : Nat) : UInt8 := [48, 49, 50, 51, 52, 53, 54, 55, 56, 57, 97, 98, 99, 100, 101, 102].getD d 0
theorem hxC_facts : ∀ d, d < 16 → hexF (bI (hxC d)) = ((d : Int), true) ∧ bI (hxC d) ≠ 10 ∧ 0 ≤ bI (hxC d) ∧ plB (hxC d) = true := by
  intro d h
  have : d = 0 ∨ d = 1 ∨ d = 2 ∨ d = 3 ∨ d = 4 ∨ d = 5 ∨ d = 6 ∨ d = 7 ∨ d = 8 ∨ d = 9 ∨ d = 10 ∨ d = 11 ∨ d = 12 ∨ d = 13 ∨ d = 14 ∨ d = 15 := by omega
  rcases this with rfl | rfl | rfl | rfl | rfl | rfl | rfl | rfl | rfl | rfl | rfl | rfl | rfl | rfl | rfl | rfl <;> exact ⟨by decide, by decide, by decide, by decide⟩
theorem hexR_d : ∀ (ds : List Nat) (m : Nat) (acc : Int) (R : List Int), (∀ d ∈ ds, d < 16) → ds.length ≤ m → hexRL m ((ds.map hxC).map bI ++ R) acc = hexRL (m - ds.length) R (foldD ds acc)
  | [], m, acc, R, _, _ => rfl
  | d :: ds, 0, acc, R, _, hl => by simp at hl
  | d :: ds, m + 1, acc, R, hd, hl => by
    have hf := (hxC_facts d (hd d (by simp))).1
    have g0 : gt (((d :: ds).map hxC).map bI ++ R) 0 = bI (hxC d) := rfl
    have g1 : (((d :: ds).map hxC).map bI ++ R).drop 1 = (ds.map hxC).map bI ++ R := rfl
    rw [hexRL, g0, g1, hf, if_pos rfl, hexR_d ds m _ R (fun e he => hd e (by simp [he])) (by simp at hl; omega)]
    rw [List.length_cons, Nat.add_sub_add_right]
    rfl
theorem hexR_stop (m : Nat) (R : List Int) (acc : Int) (h : (hexF (gt R 0)).2 = false) : hexRL m R acc = (acc, R) := by
  cases m with
  | zero => rfl
  | succ m => rw [hexRL, h, if_neg (by decide)]
def hx (n : Nat) : List UInt8 := (dgs 6 n).map hxC
/-- A sign that may be escaped. -/
def okR (r : Int) : Bool := decide (1 ≤ r) && decide (r ≤ 1114111) && !(decide (55296 ≤ r) && decide (r ≤ 57343))
theorem okR_facts {r : Int} (h : okR r = true) : 1 ≤ r ∧ r ≤ 1114111 ∧ ¬ (55296 ≤ r ∧ r ≤ 57343) := by
  simp only [okR, Bool.and_eq_true, decide_eq_true_eq, Bool.not_eq_true', Bool.and_eq_false_iff, decide_eq_false_iff_not] at h
  omega
theorem esc_hx (r : Int) (h : okR r = true) (R : List Int) : escEL ((hx r.toNat).map bI ++ 32 :: R) = (r, R) ∧ gt ((hx r.toNat).map bI ++ 32 :: R) 0 ≠ 10 := by
  have hr := okR_facts h
  have hne := dgs_pos (f := 6) (n := r.toNat) (by omega) (by omega)
  have hlt := dgs_lt 6 r.toNat
  have hln := dgs_len 6 r.toNat
  have hfo := dgs_fold 6 r.toNat (by omega)
  have hR := hexR_d (dgs 6 r.toNat) 6 0 (32 :: R) hlt hln
  rw [hexR_stop (6 - (dgs 6 r.toNat).length) (32 :: R) _ rfl, hfo] at hR
  rw [hx]
  generalize dgs 6 r.toNat = ds at hne hlt hR ⊢
  cases ds with
  | nil => exact absurd rfl hne
  | cons d ds =>
    have hf := hxC_facts d (hlt d (by simp))
    have g0 : gt (((d :: ds).map hxC).map bI ++ 32 :: R) 0 = bI (hxC d) := rfl
    refine ⟨?_, by rw [g0]; exact hf.2.1⟩
    rw [escEL, hR, g0, if_neg (by omega), hf.1, if_neg (show ¬ true = false by decide)]
    have hc : codeF (r.toNat : Int) = r := by
      rw [codeF, if_neg (by omega)]; omega
    have g2 : whiteF (gt (32 :: R) 0) = true := rfl
    simp only
    rw [g2, if_pos rfl, hc]
    rfl
def esB (r : Int) : List UInt8 := 92 :: (hx r.toNat ++ [32])
theorem name_es (r : Int) (h : okR r = true) (R : List Int) : nameL ((esB r).map bI ++ R) = (r :: (nameL R).1, (nameL R).2) := by
  have he := esc_hx r h R
  have e : (esB r).map bI ++ R = 92 :: ((hx r.toNat).map bI ++ 32 :: R) := by simp [esB, bI]
  have hs : escL (92 :: ((hx r.toNat).map bI ++ 32 :: R)) = true := by
    rw [escL]
    show (true && !decide (gt ((hx r.toNat).map bI ++ 32 :: R) 0 = 10)) = true
    rw [decide_eq_false he.2]; rfl
  rw [e, nameL_esc hs]
  show ((escEL ((hx r.toNat).map bI ++ 32 :: R)).1 :: _, _) = _
  rw [show (92 :: ((hx r.toNat).map bI ++ 32 :: R) : List Int).drop 1 = (hx r.toNat).map bI ++ 32 :: R from rfl, he.1]
theorem name_ess (R : List Int) : ∀ l : List Int, l.all okR = true → nameL ((l.flatMap esB).map bI ++ R) = (l ++ (nameL R).1, (nameL R).2)
  | [], _ => rfl
  | r :: l, h => by
    rw [List.all_cons, Bool.and_eq_true] at h
    have e : ((r :: l).flatMap esB).map bI ++ R = (esB r).map bI ++ ((l.flatMap esB).map bI ++ R) := by simp
    rw [e, name_es r h.1, name_ess R l h.2]
    rfl
def nmB (l : List Int) : List UInt8 := 97 :: l.flatMap esB
theorem name_nm (l : List Int) (h : l.all okR = true) (R : List Int) (h1 : nameF (gt R 0) = false) (h2 : escL R = false) : nameL ((nmB l).map bI ++ R) = (97 :: l, R) := by
  have e : (nmB l).map bI ++ R = 97 :: ((l.flatMap esB).map bI ++ R) := rfl
  rw [e, nameL_go (by rfl)]
  show (97 :: (nameL ((l.flatMap esB).map bI ++ R)).1, (nameL ((l.flatMap esB).map bI ++ R)).2) = _
  rw [name_ess R l h, nameL_no h1 h2, List.append_nil]
theorem nm_pl (l : List Int) : (nmB l).all plB = true := by
  rw [nmB, List.all_cons, List.all_flatMap]
  refine Bool.and_eq_true_iff.2 ⟨rfl, List.all_eq_true.2 fun r _ => ?_⟩
  rw [esB, List.all_cons, List.all_append, hx, List.all_map]
  refine Bool.and_eq_true_iff.2 ⟨rfl, Bool.and_eq_true_iff.2 ⟨List.all_eq_true.2 fun d hd => (hxC_facts d (dgs_lt 6 _ d hd)).2.2.2, rfl⟩⟩
theorem name0 (l : List Int) (h : l.all okR = true) : toks ⟨(nmB l).toArray⟩ = [tkK 1 (runesBytes (97 :: l))] := by
  have hn := name_nm l h [] rfl rfl
  rw [List.append_nil] at hn
  rw [toks_pl _ (nm_pl l)]
  show toksL (97 :: (l.flatMap esB).map bI) = _
  have hn' : nameL (97 :: (l.flatMap esB).map bI) = (97 :: l, []) := hn
  rw [toksL_let 97 _ rfl, tokL_let (by rfl), idtL, hn']
  rw [if_neg (show ¬ gt ([] : List Int) 0 = 40 by decide), toksL_nil]
theorem name3 (l : List Int) (h : l.all okR = true) (hu : lowS (runesBytes (97 :: l)) ≠ urlS) : toks ⟨(nmB l ++ [40]).toArray⟩ = [tkK 2 (runesBytes (97 :: l))] := by
  have hn := name_nm l h [40] rfl rfl
  have e1 : ([40] : List UInt8).map bI = [40] := rfl
  have e2 : (nmB l).map bI ++ [40] = 97 :: ((l.flatMap esB).map bI ++ [40]) := rfl
  have g : gt ([40] : List Int) 0 = 40 := rfl
  have d : List.drop 1 ([40] : List Int) = [] := rfl
  rw [e2] at hn
  rw [toks_pl _ (by rw [List.all_append, nm_pl]; rfl), List.map_append, e1, e2]
  rw [toksL_let 97 _ rfl, tokL_let (by rfl), idtL, hn]
  simp only [g, d, if_true]
  rw [if_neg hu, toksL_nil]
theorem name1 (l : List Int) (h : l.all okR = true) : toks ⟨(35 :: nmB l).toArray⟩ = [⟨4, runesBytes (97 :: l), 0, false, false, true⟩] := by
  have hn := name_nm l h [] rfl rfl
  rw [List.append_nil] at hn
  rw [toks_pl _ (by rw [List.all_cons, nm_pl]; rfl), List.map_cons]
  show toksL (35 :: (nmB l).map bI) = _
  have h0 : gt (35 :: (nmB l).map bI) 0 = 35 := rfl
  have htok : tokL (35 :: (nmB l).map bI) = (⟨4, runesBytes (97 :: l), 0, false, false, true⟩, []) := by
    rw [tokL, h0, if_neg (plI_no (by decide)), if_neg (by decide), if_neg (by decide), if_pos (by rfl)]
    show ((⟨4, runesBytes (nameL ((nmB l).map bI)).1, 0, false, false, true⟩ : Tk), (nameL ((nmB l).map bI)).2) = _
    rw [hn]
  rw [toksL_at (l := 35 :: (nmB l).map bI) (by show (0 : Int) ≤ 35; decide) (by left; show (35 : Int) ≠ 47; decide), htok, toksL_nil]
theorem name2 (l : List Int) (h : l.all okR = true) : toks ⟨(64 :: nmB l).toArray⟩ = [tkK 3 (runesBytes (97 :: l))] := by
  have hn := name_nm l h [] rfl rfl
  rw [List.append_nil] at hn
  rw [toks_pl _ (by rw [List.all_cons, nm_pl]; rfl), List.map_cons]
  show toksL (64 :: (nmB l).map bI) = _
  have h0 : gt (64 :: (nmB l).map bI) 0 = 64 := rfl
  have htok : tokL (64 :: (nmB l).map bI) = (tkK 3 (runesBytes (97 :: l)), []) := by
    rw [tokL, h0, if_neg (plI_no (by decide)), if_neg (by decide), if_neg (by decide), if_neg (by rw [hashL, h0, decide_eq_false (by decide), Bool.false_and]; decide), if_neg (by rw [numBL, h0, show (decide ((64 : Int) = 43) || decide ((64 : Int) = 45) || decide ((64 : Int) = 46) || digF 64) = false from rfl, Bool.false_and]; decide), if_neg (by rw [cdcL, h0, decide_eq_false (by decide), Bool.false_and, Bool.false_and]; decide), if_neg (by rw [cdoL, h0, decide_eq_false (by decide), Bool.false_and, Bool.false_and, Bool.false_and]; decide), if_pos (by rfl)]
    show (tkK 3 (runesBytes (nameL ((nmB l).map bI)).1), (nameL ((nmB l).map bI)).2) = _
    rw [hn]
  rw [toksL_at (l := 64 :: (nmB l).map bI) (by show (0 : Int) ≤ 64; decide) (by left; show (64 : Int) ≠ 47; decide), htok, toksL_nil]
theorem nmB_snoc (l : List Int) (r : Int) : nmB (l ++ [r]) = nmB l ++ esB r := by rw [nmB, List.flatMap_append]; simp [nmB]
theorem esB_len (r : Int) : (esB r).length ≤ 8 := by
  have := dgs_len 6 r.toNat
  simp only [esB, hx, List.length_cons, List.length_append, List.length_map, List.length_nil]; omega
end Go.Proofs.YtbjinibmkkmhkaaDoor
