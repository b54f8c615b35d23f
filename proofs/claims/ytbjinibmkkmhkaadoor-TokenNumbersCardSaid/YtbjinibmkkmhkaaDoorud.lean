/- Whole numbers, plain. -/
import Derived.Test.YtbjinibmkkmhkaaDooruc
import Derived.Test.YtbjinibmkkmhkaaDooru8
namespace Go.Proofs.YtbjinibmkkmhkaaDoor
open Go Go.RowKit
set_option maxRecDepth 20000

def dgB (u : Nat) : UInt8 := UInt8.ofNat (48 + u % 10)
theorem dgB_nat (u : Nat) : (dgB u).toNat = 48 + u % 10 := by
  rw [dgB, UInt8.toNat_ofNat']
  omega
def dgLR : Nat → Nat → List UInt8 → List UInt8
  | 0, _, l => l
  | f + 1, u, l => if 0 < u ∨ l = [] then dgLR f (u / 10) (dgB u :: l) else l
theorem nil_bytes (l : List UInt8) : ((⟨l.toArray⟩ : ByteArray) = ⟨#[]⟩) = (l = []) := by
  apply propext
  constructor
  · intro h
    have := congrArg (fun x => x.data.toList) h
    simpa using this
  · rintro rfl; rfl
theorem dgtR_L : ∀ (f u : Nat) (l : List UInt8), dgtR f u ⟨l.toArray⟩ = ⟨(dgLR f u l).toArray⟩
  | 0, _, _ => rfl
  | f + 1, u, l => by
    have hb : bytesStr [48 + (u : Int) % 10] = ⟨[dgB u].toArray⟩ := by
      have : (48 + (u : Int) % 10).toNat = 48 + u % 10 := by omega
      rw [bytesStr, List.map_cons, this]; rfl
    rw [dgtR, dgLR]
    by_cases h : 0 < u ∨ l = []
    · rw [if_pos (by rw [nil_bytes]; exact h), if_pos h, hb, cat_l, dgtR_L f (u / 10) _]; rfl
    · rw [if_neg (by rw [nil_bytes]; exact h), if_neg h]
def digU (c : UInt8) : Bool := decide (48 ≤ c.toNat) && decide (c.toNat ≤ 57)
theorem digU_dgB (u : Nat) : digU (dgB u) = true := by
  rw [digU, dgB_nat, decide_eq_true (by omega), decide_eq_true (by omega)]; rfl
theorem dgLR_dig : ∀ (f u : Nat) (l : List UInt8), l.all digU = true → (dgLR f u l).all digU = true
  | 0, _, _, h => h
  | f + 1, u, l, h => by
    rw [dgLR]
    split
    · exact dgLR_dig f _ _ (by rw [List.all_cons, digU_dgB, h]; rfl)
    · exact h
theorem dgLR_len : ∀ (f u : Nat) (l : List UInt8), (dgLR f u l).length ≤ f + l.length
  | 0, _, _ => by rw [dgLR]; omega
  | f + 1, u, l => by
    rw [dgLR]
    split
    · have := dgLR_len f (u / 10) (dgB u :: l)
      rw [List.length_cons] at this; omega
    · omega
theorem dgLR_ne : ∀ (f u : Nat) (l : List UInt8), l ≠ [] → dgLR f u l ≠ []
  | 0, _, _, h => h
  | f + 1, u, l, h => by
    rw [dgLR]
    split
    · exact dgLR_ne f _ _ (by simp)
    · exact h
def valD : List UInt8 → Nat → Nat
  | [], n => n
  | b :: r, n => valD r (n * 10 + (b.toNat - 48))
theorem dgLR_val : ∀ (f u : Nat) (l : List UInt8), u < 10 ^ f → valD (dgLR f u l) 0 = valD l u
  | 0, u, l, h => by
    have : u = 0 := by omega
    subst this; rfl
  | f + 1, u, l, h => by
    rw [dgLR]
    split
    · rw [dgLR_val f (u / 10) _ (by rw [Nat.pow_succ] at h; omega), valD, dgB_nat]
      congr 1; omega
    · rename_i h2
      have : u = 0 := by omega
      subst this; rfl
def digits (m : Nat) : List UInt8 := dgLR 21 m []
theorem decN_L (m : Nat) : decN m = ⟨(digits m).toArray⟩ := dgtR_L 21 m []
theorem digits_all (m : Nat) : (digits m).all digU = true := dgLR_dig 21 m [] rfl
theorem digits_len (m : Nat) : (digits m).length ≤ 21 := dgLR_len 21 m []
theorem digits_ne (m : Nat) : digits m ≠ [] := by
  rw [digits, dgLR, if_pos (.inr rfl)]
  exact dgLR_ne 20 _ _ (by simp)
theorem digits_val (m : Nat) (h : m < 10 ^ 21) : valD (digits m) 0 = m := dgLR_val 21 m [] h
theorem intGo_val : ∀ (l : List UInt8) (n : Nat), l.all digU = true → intGo l (min (n : Int) 4294967296) = some (min (valD l n : Int) 4294967296)
  | [], _, _ => rfl
  | b :: r, n, h => by
    rw [List.all_cons, Bool.and_eq_true, digU, Bool.and_eq_true, decide_eq_true_eq, decide_eq_true_eq] at h
    have e : min (min (n : Int) 4294967296 * 10 + ((b.toNat : Int) - 48)) 4294967296 = min (((n * 10 + (b.toNat - 48) : Nat)) : Int) 4294967296 := by omega
    rw [intGo, if_neg (by omega), e, intGo_val r _ h.2, valD]
def sgB : Nat → List UInt8
  | 0 => []
  | 1 => [43]
  | _ => [45]
def heldF (k m : Nat) : Int := if k = 2 then -(min (m : Int) 2147483648) else min (m : Int) 2147483647
theorem int_held (k m : Nat) (hk : k < 3) (hm : m ≤ 9223372036854775808) : intF ⟨(sgB k ++ digits m).toArray⟩ = heldF k m := by
  have hd := digits_all m
  have hne := digits_ne m
  have hv := digits_val m (by omega)
  have hg := intGo_val (digits m) 0 hd
  rw [hv] at hg
  have hg' : intGo (digits m) 0 = some (min (m : Int) 4294967296) := hg
  show (if intK (sgB k ++ digits m) = (sgB k ++ digits m).length then 0 else match intGo ((sgB k ++ digits m).drop (intK (sgB k ++ digits m))) 0 with
    | none => 0
    | some n => if ((sgB k ++ digits m).getD 0 0).toNat = 45 then max (-n) (-2147483648) else min n 2147483647) = _
  generalize digits m = D at hd hne hg'
  cases D with
  | nil => exact absurd rfl hne
  | cons c q =>
    have hc : 48 ≤ c.toNat ∧ c.toNat ≤ 57 := by
      rw [List.all_cons, Bool.and_eq_true, digU, Bool.and_eq_true, decide_eq_true_eq, decide_eq_true_eq] at hd
      exact hd.1
    have : k = 0 ∨ k = 1 ∨ k = 2 := by omega
    rcases this with rfl | rfl | rfl
    · have hk0 : intK (sgB 0 ++ c :: q) = 0 := by
        rw [intK, if_neg]
        show ¬ (_ ∧ (c.toNat = 43 ∨ c.toNat = 45))
        omega
      rw [hk0, if_neg (by simp), show List.drop 0 (sgB 0 ++ c :: q) = c :: q from rfl, hg']
      show (if c.toNat = 45 then _ else _) = _
      rw [if_neg (by omega), heldF, if_neg (by decide)]
      omega
    · have hk0 : intK (sgB 1 ++ c :: q) = 1 := by rw [intK, if_pos ⟨by rw [List.length_append, List.length_cons]; omega, .inl rfl⟩]
      rw [hk0, if_neg (by simp [sgB]), show List.drop 1 (sgB 1 ++ c :: q) = c :: q from rfl, hg']
      show (if (43 : UInt8).toNat = 45 then _ else _) = _
      rw [if_neg (by decide), heldF, if_neg (by decide)]
      omega
    · have hk0 : intK (sgB 2 ++ c :: q) = 1 := by rw [intK, if_pos ⟨by rw [List.length_append, List.length_cons]; omega, .inr rfl⟩]
      rw [hk0, if_neg (by simp [sgB]), show List.drop 1 (sgB 2 ++ c :: q) = c :: q from rfl, hg']
      show (if (45 : UInt8).toNat = 45 then _ else _) = _
      rw [if_pos (by decide), heldF, if_pos rfl]
      omega
def enB : Nat → List UInt8
  | 0 => []
  | 1 => [46, 53]
  | 2 => [101, 51]
  | 3 => [112, 120]
  | _ => [37]
def nmT (k j : Nat) (v : Int) : Tk := ⟨[10, 10, 10, 12, 11].getD j 0, if j = 3 then ⟨#[112, 120]⟩ else ⟨#[]⟩, if j = 1 ∨ j = 2 then 0 else v, !(decide (j = 1) || decide (j = 2)), decide (0 < k), false⟩
theorem numL_end (L : List Int) (k j : Nat) (v : Int) (hj : j < 5) (h2 : n2L L = (enB j).map bI) (hv : intF (runesBytes (nTL L)) = v) (hs : nSL L = decide (0 < k)) : numL L = (nmT k j v, []) := by
  have : j = 0 ∨ j = 1 ∨ j = 2 ∨ j = 3 ∨ j = 4 := by omega
  rcases this with rfl | rfl | rfl | rfl | rfl
  · have hP : nPL L = [] := by rw [nPL, h2]; kernel_rfl
    have hW : nWL L = true := by rw [nWL, h2]; kernel_rfl
    rw [numL, hP, if_neg (by decide), if_neg (by decide), nTkL, hW, hv, hs]; rfl
  · have hP : nPL L = [] := by rw [nPL, h2]; kernel_rfl
    have hW : nWL L = false := by rw [nWL, h2]; kernel_rfl
    rw [numL, hP, if_neg (by decide), if_neg (by decide), nTkL, hW, hs]; rfl
  · have hP : nPL L = [] := by rw [nPL, h2]; kernel_rfl
    have hW : nWL L = false := by rw [nWL, h2]; kernel_rfl
    rw [numL, hP, if_neg (by decide), if_neg (by decide), nTkL, hW, hs]; rfl
  · have hP : nPL L = [112, 120] := by rw [nPL, h2]; kernel_rfl
    have hW : nWL L = true := by rw [nWL, h2]; kernel_rfl
    have hn : nameL [112, 120] = ([112, 120], []) := by kernel_rfl
    have hr : runesBytes [112, 120] = ⟨#[112, 120]⟩ := by kernel_rfl
    rw [numL, hP, if_pos (by decide), nTkL, hW, hv, hs, hn, hr]; rfl
  · have hP : nPL L = [37] := by rw [nPL, h2]; kernel_rfl
    have hW : nWL L = true := by rw [nWL, h2]; kernel_rfl
    rw [numL, hP, if_neg (by decide), if_pos (by decide), nTkL, hW, hv, hs]; rfl
theorem digU_I {c : UInt8} (h : digU c = true) : digF (bI c) = true ∧ 48 ≤ bI c ∧ bI c ≤ 57 ∧ plB c = true ∧ c.toNat < 128 := by
  rw [digU, Bool.and_eq_true, decide_eq_true_eq, decide_eq_true_eq] at h
  refine ⟨?_, by unfold bI; omega, by unfold bI; omega, ?_, by omega⟩
  · rw [digF, decide_eq_true (show 48 ≤ bI c by unfold bI; omega), decide_eq_true (show bI c ≤ 57 by unfold bI; omega)]; rfl
  · simp only [plB, Bool.and_eq_true, decide_eq_true_eq, Bool.not_eq_true', decide_eq_false_iff_not]
    omega
theorem num_toks (k j : Nat) (D : List UInt8) (v : Int) (hk : k < 3) (hj : j < 5) (hd : D.all digU = true) (hne : D ≠ []) (hv : intF ⟨(sgB k ++ D).toArray⟩ = v) : toks ⟨(sgB k ++ (D ++ enB j)).toArray⟩ = [nmT k j v] := by
  have hall := List.all_eq_true.1 hd
  have hpe : (enB j).all plB = true ∧ digF (gt ((enB j).map bI) 0) = false := by
    have : j = 0 ∨ j = 1 ∨ j = 2 ∨ j = 3 ∨ j = 4 := by omega
    rcases this with rfl | rfl | rfl | rfl | rfl <;> exact ⟨by decide, by decide⟩
  have hps : (sgB k).all plB = true := by
    have : k = 0 ∨ k = 1 ∨ k = 2 := by omega
    rcases this with rfl | rfl | rfl <;> decide
  have hpd : D.all plB = true := List.all_eq_true.2 fun c hc => (digU_I (hall c hc)).2.2.2.1
  have hrun : runesBytes ((sgB k ++ D).map bI) = ⟨(sgB k ++ D).toArray⟩ := runes_ascii _ (by
    rw [List.all_append, Bool.and_eq_true]
    refine ⟨?_, List.all_eq_true.2 fun c hc => decide_eq_true (digU_I (hall c hc)).2.2.2.2⟩
    have : k = 0 ∨ k = 1 ∨ k = 2 := by omega
    rcases this with rfl | rfl | rfl <;> decide)
  rw [toks_pl _ (by rw [List.all_append, List.all_append, hps, hpd, hpe.1]; rfl), List.map_append, List.map_append]
  have hdg := digL_run (D.map bI) ((enB j).map bI) (by rw [List.all_map]; exact List.all_eq_true.2 fun c hc => (digU_I (hall c hc)).1) hpe.2
  obtain ⟨c, q, rfl⟩ : ∃ c q, D = c :: q := by
    cases D with
    | nil => exact absurd rfl hne
    | cons c q => exact ⟨c, q, rfl⟩
  have hc := digU_I (hall c (by simp))
  generalize hE : (enB j).map bI = E at hdg hpe ⊢
  have key : ∀ (L : List Int) (sg : List Int), sg ++ (c :: q).map bI = (sgB k ++ (c :: q)).map bI → nSL L = decide (0 < k) → n1L L = (c :: q).map bI ++ E → nT1L L = sg → numBL L = true → (gt L 0 = 43 ∨ gt L 0 = 45 ∨ 48 ≤ gt L 0 ∧ gt L 0 ≤ 57) → toksL L = [nmT k j v] := by
    intro L sg hsg hS h1 hT hB h0
    have hnum := numL_end L k j v hj (by rw [n2L, h1, hdg, hE]) (by rw [nTL, hT, h1, hdg, hsg, hrun, hv]) hS
    have hw : whiteF (gt L 0) = false := by
      rw [Bool.eq_false_iff]; simp only [ne_eq, whiteF, Bool.or_eq_true, decide_eq_true_eq]; omega
    have hh : hashL L = false := by rw [hashL, decide_eq_false (by omega), Bool.false_and]
    have htok : tokL L = (nmT k j v, []) := by
      rw [tokL, if_neg (plI_no (by omega)), hw, if_neg (by decide), if_neg (by omega), hh, if_neg (by decide), if_pos hB, hnum]
    rw [toksL_at (by omega) (.inl (by omega)), htok, toksL_nil]
  have : k = 0 ∨ k = 1 ∨ k = 2 := by omega
  rcases this with rfl | rfl | rfl
  · have g0 : gt ((sgB 0).map bI ++ ((c :: q).map bI ++ E)) 0 = bI c := rfl
    have hS : nSL ((sgB 0).map bI ++ ((c :: q).map bI ++ E)) = false := by
      rw [nSL, g0, decide_eq_false (by omega), decide_eq_false (by omega)]; rfl
    refine key _ [] rfl hS (by rw [n1L, hS]; rfl) (by rw [nT1L, hS]; rfl) ?_ (by rw [g0]; omega)
    rw [numBL, numsL, g0, hc.1, if_neg (by omega)]
    simp
  · refine key _ [43] rfl rfl rfl rfl ?_ (.inl rfl)
    rw [numBL, numsL]
    show (true && (if (43 : Int) = 43 ∨ (43 : Int) = 45 then digF (bI c) || _ else _)) = true
    rw [if_pos (.inl rfl), hc.1]; rfl
  · refine key _ [45] rfl rfl rfl rfl ?_ (.inr (.inl rfl))
    rw [numBL, numsL]
    show (true && (if (45 : Int) = 43 ∨ (45 : Int) = 45 then digF (bI c) || _ else _)) = true
    rw [if_pos (.inr rfl), hc.1]; rfl
end Go.Proofs.YtbjinibmkkmhkaaDoor
