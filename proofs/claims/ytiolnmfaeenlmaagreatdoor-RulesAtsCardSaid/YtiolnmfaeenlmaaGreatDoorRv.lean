/- RulesAts: what the text says (plain). -/
import Derived.Test.YtiolnmfaeenlmaaGreatDoorRs
namespace Go.Proofs.YtiolnmfaeenlmaaGreatDoor
open Go Go.RowKit
set_option maxRecDepth 20000

def paL : List UInt8 := [32, 112, 40, 59, 123, 125, 41, 32, 91, 59, 93]
def ppL : Nat → List UInt8
  | 0 => []
  | n + 1 => ppL n ++ paL
def fnL : Nat → List UInt8
  | 0 => [59, 97, 32, 123, 32, 100, 58, 32, 101, 32, 125]
  | 1 => [32, 123, 32, 99, 111, 108, 111, 114, 58, 32, 114, 101, 100, 59, 32, 64, 121, 32, 123, 32, 122, 58, 32, 119, 32, 125, 32, 98, 58, 32, 99, 32, 125, 97, 32, 123, 32, 100, 58, 32, 101, 32, 125]
  | _ => []
def paN : List Nd := [(.mk ⟨13, ⟨#[]⟩, 0, false, false, false⟩ []), (.mk ⟨2, ⟨#[112]⟩, 0, false, false, false⟩ [(.mk ⟨17, ⟨#[]⟩, 0, false, false, false⟩ []), (.mk ⟨19, ⟨#[123]⟩, 0, false, false, false⟩ [])]), (.mk ⟨13, ⟨#[]⟩, 0, false, false, false⟩ []), (.mk ⟨19, ⟨#[91]⟩, 0, false, false, false⟩ [(.mk ⟨17, ⟨#[]⟩, 0, false, false, false⟩ [])])]
def fnN : Nat → List Nd
  | 0 => [(.mk ⟨17, ⟨#[]⟩, 0, false, false, false⟩ []), (.mk ⟨1, ⟨#[97]⟩, 0, false, false, false⟩ []), (.mk ⟨13, ⟨#[]⟩, 0, false, false, false⟩ []), (.mk ⟨19, ⟨#[123]⟩, 0, false, false, false⟩ [(.mk ⟨13, ⟨#[]⟩, 0, false, false, false⟩ []), (.mk ⟨1, ⟨#[100]⟩, 0, false, false, false⟩ []), (.mk ⟨16, ⟨#[]⟩, 0, false, false, false⟩ []), (.mk ⟨13, ⟨#[]⟩, 0, false, false, false⟩ []), (.mk ⟨1, ⟨#[101]⟩, 0, false, false, false⟩ []), (.mk ⟨13, ⟨#[]⟩, 0, false, false, false⟩ [])])]
  | 1 => [(.mk ⟨13, ⟨#[]⟩, 0, false, false, false⟩ []), (.mk ⟨19, ⟨#[123]⟩, 0, false, false, false⟩ [(.mk ⟨13, ⟨#[]⟩, 0, false, false, false⟩ []), (.mk ⟨1, ⟨#[99, 111, 108, 111, 114]⟩, 0, false, false, false⟩ []), (.mk ⟨16, ⟨#[]⟩, 0, false, false, false⟩ []), (.mk ⟨13, ⟨#[]⟩, 0, false, false, false⟩ []), (.mk ⟨1, ⟨#[114, 101, 100]⟩, 0, false, false, false⟩ []), (.mk ⟨17, ⟨#[]⟩, 0, false, false, false⟩ []), (.mk ⟨13, ⟨#[]⟩, 0, false, false, false⟩ []), (.mk ⟨3, ⟨#[121]⟩, 0, false, false, false⟩ []), (.mk ⟨13, ⟨#[]⟩, 0, false, false, false⟩ []), (.mk ⟨19, ⟨#[123]⟩, 0, false, false, false⟩ [(.mk ⟨13, ⟨#[]⟩, 0, false, false, false⟩ []), (.mk ⟨1, ⟨#[122]⟩, 0, false, false, false⟩ []), (.mk ⟨16, ⟨#[]⟩, 0, false, false, false⟩ []), (.mk ⟨13, ⟨#[]⟩, 0, false, false, false⟩ []), (.mk ⟨1, ⟨#[119]⟩, 0, false, false, false⟩ []), (.mk ⟨13, ⟨#[]⟩, 0, false, false, false⟩ [])]), (.mk ⟨13, ⟨#[]⟩, 0, false, false, false⟩ []), (.mk ⟨1, ⟨#[98]⟩, 0, false, false, false⟩ []), (.mk ⟨16, ⟨#[]⟩, 0, false, false, false⟩ []), (.mk ⟨13, ⟨#[]⟩, 0, false, false, false⟩ []), (.mk ⟨1, ⟨#[99]⟩, 0, false, false, false⟩ []), (.mk ⟨13, ⟨#[]⟩, 0, false, false, false⟩ [])]), (.mk ⟨1, ⟨#[97]⟩, 0, false, false, false⟩ []), (.mk ⟨13, ⟨#[]⟩, 0, false, false, false⟩ []), (.mk ⟨19, ⟨#[123]⟩, 0, false, false, false⟩ [(.mk ⟨13, ⟨#[]⟩, 0, false, false, false⟩ []), (.mk ⟨1, ⟨#[100]⟩, 0, false, false, false⟩ []), (.mk ⟨16, ⟨#[]⟩, 0, false, false, false⟩ []), (.mk ⟨13, ⟨#[]⟩, 0, false, false, false⟩ []), (.mk ⟨1, ⟨#[101]⟩, 0, false, false, false⟩ []), (.mk ⟨13, ⟨#[]⟩, 0, false, false, false⟩ [])])]
  | _ => []
def ppN : Nat → List Nd
  | 0 => []
  | n + 1 => ppN n ++ paN
def preN (n : Nat) : List Nd := (ppN n).drop 1
def atT (W : ByteArray) : Tk := ⟨3, W, 0, false, false, false⟩
def rA1 : Rl := ⟨⟨#[]⟩, [(.mk ⟨1, ⟨#[97]⟩, 0, false, false, false⟩ [])], true, [⟨⟨#[100]⟩, [(.mk ⟨1, ⟨#[101]⟩, 0, false, false, false⟩ [])], false⟩]⟩
def dA2 : List Dc := [⟨⟨#[99, 111, 108, 111, 114]⟩, [(.mk ⟨1, ⟨#[114, 101, 100]⟩, 0, false, false, false⟩ [])], false⟩, ⟨⟨#[98]⟩, [(.mk ⟨1, ⟨#[99]⟩, 0, false, false, false⟩ [])], false⟩]
def rlsA (n k : Nat) (X : ByteArray) : List Rl :=
  match k with
  | 0 => [⟨X, preN n, false, []⟩, rA1]
  | 1 => [⟨X, preN n, true, dA2⟩, rA1]
  | _ => [⟨X, preN n, false, []⟩]
theorem ppN_len : ∀ n, (ppN n).length = 4 * n
  | 0 => rfl
  | n + 1 => by rw [ppN, List.length_append, ppN_len n, show paN.length = 4 from rfl]; omega
theorem preN_len (n : Nat) : ((preN n).length : Int) = max (4 * (n : Int) - 1) 0 := by
  rw [preN, List.length_drop, ppN_len]; omega
theorem ppL_len : ∀ n, (ppL n).length = 11 * n
  | 0 => rfl
  | n + 1 => by rw [ppL, List.length_append, ppL_len n, show paL.length = 11 from rfl]; omega
theorem at_tl : ∀ n, n < 11 → ∀ k, k < 3 → nodesT (toksL ((ppL n ++ fnL k).map bI)) = ppN n ++ fnN k ∧ (ppL n ++ fnL k).all plB = true ∧ (ppN n ++ fnN k).all (fun n => okTx n && n.kids.all okTx && !atKB n) = true ∧ nameF (gt ((ppL n ++ fnL k).map bI) 0) = false ∧ gt ((ppL n ++ fnL k).map bI) 0 ≠ 92
  | 0, _, 0, _ => ⟨by kernel_rfl, by kernel_rfl, by kernel_rfl, by kernel_rfl, by decide⟩
  | 0, _, 1, _ => ⟨by kernel_rfl, by kernel_rfl, by kernel_rfl, by kernel_rfl, by decide⟩
  | 0, _, 2, _ => ⟨by kernel_rfl, by kernel_rfl, by kernel_rfl, by kernel_rfl, by decide⟩
  | 1, _, 0, _ => ⟨by kernel_rfl, by kernel_rfl, by kernel_rfl, by kernel_rfl, by decide⟩
  | 1, _, 1, _ => ⟨by kernel_rfl, by kernel_rfl, by kernel_rfl, by kernel_rfl, by decide⟩
  | 1, _, 2, _ => ⟨by kernel_rfl, by kernel_rfl, by kernel_rfl, by kernel_rfl, by decide⟩
  | 2, _, 0, _ => ⟨by kernel_rfl, by kernel_rfl, by kernel_rfl, by kernel_rfl, by decide⟩
  | 2, _, 1, _ => ⟨by kernel_rfl, by kernel_rfl, by kernel_rfl, by kernel_rfl, by decide⟩
  | 2, _, 2, _ => ⟨by kernel_rfl, by kernel_rfl, by kernel_rfl, by kernel_rfl, by decide⟩
  | 3, _, 0, _ => ⟨by kernel_rfl, by kernel_rfl, by kernel_rfl, by kernel_rfl, by decide⟩
  | 3, _, 1, _ => ⟨by kernel_rfl, by kernel_rfl, by kernel_rfl, by kernel_rfl, by decide⟩
  | 3, _, 2, _ => ⟨by kernel_rfl, by kernel_rfl, by kernel_rfl, by kernel_rfl, by decide⟩
  | 4, _, 0, _ => ⟨by kernel_rfl, by kernel_rfl, by kernel_rfl, by kernel_rfl, by decide⟩
  | 4, _, 1, _ => ⟨by kernel_rfl, by kernel_rfl, by kernel_rfl, by kernel_rfl, by decide⟩
  | 4, _, 2, _ => ⟨by kernel_rfl, by kernel_rfl, by kernel_rfl, by kernel_rfl, by decide⟩
  | 5, _, 0, _ => ⟨by kernel_rfl, by kernel_rfl, by kernel_rfl, by kernel_rfl, by decide⟩
  | 5, _, 1, _ => ⟨by kernel_rfl, by kernel_rfl, by kernel_rfl, by kernel_rfl, by decide⟩
  | 5, _, 2, _ => ⟨by kernel_rfl, by kernel_rfl, by kernel_rfl, by kernel_rfl, by decide⟩
  | 6, _, 0, _ => ⟨by kernel_rfl, by kernel_rfl, by kernel_rfl, by kernel_rfl, by decide⟩
  | 6, _, 1, _ => ⟨by kernel_rfl, by kernel_rfl, by kernel_rfl, by kernel_rfl, by decide⟩
  | 6, _, 2, _ => ⟨by kernel_rfl, by kernel_rfl, by kernel_rfl, by kernel_rfl, by decide⟩
  | 7, _, 0, _ => ⟨by kernel_rfl, by kernel_rfl, by kernel_rfl, by kernel_rfl, by decide⟩
  | 7, _, 1, _ => ⟨by kernel_rfl, by kernel_rfl, by kernel_rfl, by kernel_rfl, by decide⟩
  | 7, _, 2, _ => ⟨by kernel_rfl, by kernel_rfl, by kernel_rfl, by kernel_rfl, by decide⟩
  | 8, _, 0, _ => ⟨by kernel_rfl, by kernel_rfl, by kernel_rfl, by kernel_rfl, by decide⟩
  | 8, _, 1, _ => ⟨by kernel_rfl, by kernel_rfl, by kernel_rfl, by kernel_rfl, by decide⟩
  | 8, _, 2, _ => ⟨by kernel_rfl, by kernel_rfl, by kernel_rfl, by kernel_rfl, by decide⟩
  | 9, _, 0, _ => ⟨by kernel_rfl, by kernel_rfl, by kernel_rfl, by kernel_rfl, by decide⟩
  | 9, _, 1, _ => ⟨by kernel_rfl, by kernel_rfl, by kernel_rfl, by kernel_rfl, by decide⟩
  | 9, _, 2, _ => ⟨by kernel_rfl, by kernel_rfl, by kernel_rfl, by kernel_rfl, by decide⟩
  | 10, _, 0, _ => ⟨by kernel_rfl, by kernel_rfl, by kernel_rfl, by kernel_rfl, by decide⟩
  | 10, _, 1, _ => ⟨by kernel_rfl, by kernel_rfl, by kernel_rfl, by kernel_rfl, by decide⟩
  | 10, _, 2, _ => ⟨by kernel_rfl, by kernel_rfl, by kernel_rfl, by kernel_rfl, by decide⟩
  | n + 11, h, _, _ => absurd h (by omega)
  | 0, _, k + 3, h => absurd h (by omega)
  | 1, _, k + 3, h => absurd h (by omega)
  | 2, _, k + 3, h => absurd h (by omega)
  | 3, _, k + 3, h => absurd h (by omega)
  | 4, _, k + 3, h => absurd h (by omega)
  | 5, _, k + 3, h => absurd h (by omega)
  | 6, _, k + 3, h => absurd h (by omega)
  | 7, _, k + 3, h => absurd h (by omega)
  | 8, _, k + 3, h => absurd h (by omega)
  | 9, _, k + 3, h => absurd h (by omega)
  | 10, _, k + 3, h => absurd h (by omega)
theorem at_sht : ∀ n, n < 11 → ∀ k, k < 3 → ∀ W, shtA (.mk (atT W) [] :: (ppN n ++ fnN k)) 0 = rlsA n k (lowS W)
  | 0, _, 0, _, W => by kernel_rfl
  | 0, _, 1, _, W => by kernel_rfl
  | 0, _, 2, _, W => by kernel_rfl
  | 1, _, 0, _, W => by kernel_rfl
  | 1, _, 1, _, W => by kernel_rfl
  | 1, _, 2, _, W => by kernel_rfl
  | 2, _, 0, _, W => by kernel_rfl
  | 2, _, 1, _, W => by kernel_rfl
  | 2, _, 2, _, W => by kernel_rfl
  | 3, _, 0, _, W => by kernel_rfl
  | 3, _, 1, _, W => by kernel_rfl
  | 3, _, 2, _, W => by kernel_rfl
  | 4, _, 0, _, W => by kernel_rfl
  | 4, _, 1, _, W => by kernel_rfl
  | 4, _, 2, _, W => by kernel_rfl
  | 5, _, 0, _, W => by kernel_rfl
  | 5, _, 1, _, W => by kernel_rfl
  | 5, _, 2, _, W => by kernel_rfl
  | 6, _, 0, _, W => by kernel_rfl
  | 6, _, 1, _, W => by kernel_rfl
  | 6, _, 2, _, W => by kernel_rfl
  | 7, _, 0, _, W => by kernel_rfl
  | 7, _, 1, _, W => by kernel_rfl
  | 7, _, 2, _, W => by kernel_rfl
  | 8, _, 0, _, W => by kernel_rfl
  | 8, _, 1, _, W => by kernel_rfl
  | 8, _, 2, _, W => by kernel_rfl
  | 9, _, 0, _, W => by kernel_rfl
  | 9, _, 1, _, W => by kernel_rfl
  | 9, _, 2, _, W => by kernel_rfl
  | 10, _, 0, _, W => by kernel_rfl
  | 10, _, 1, _, W => by kernel_rfl
  | 10, _, 2, _, W => by kernel_rfl
  | n + 11, h, _, _, _ => absurd h (by omega)
  | 0, _, k + 3, h, _ => absurd h (by omega)
  | 1, _, k + 3, h, _ => absurd h (by omega)
  | 2, _, k + 3, h, _ => absurd h (by omega)
  | 3, _, k + 3, h, _ => absurd h (by omega)
  | 4, _, k + 3, h, _ => absurd h (by omega)
  | 5, _, k + 3, h, _ => absurd h (by omega)
  | 6, _, k + 3, h, _ => absurd h (by omega)
  | 7, _, k + 3, h, _ => absurd h (by omega)
  | 8, _, k + 3, h, _ => absurd h (by omega)
  | 9, _, k + 3, h, _ => absurd h (by omega)
  | 10, _, k + 3, h, _ => absurd h (by omega)
theorem toksL_at3 (c : Int) (w rest : List Int) (hc : letF c = true) (hw : w.all nameF = true) (h1 : nameF (gt rest 0) = false) (h2 : gt rest 0 ≠ 92) : toksL (64 :: (c :: w ++ rest)) = tkK 3 (runesBytes (c :: w)) :: toksL rest := by
  have hn := nameL_word (c :: w) rest (by rw [List.all_cons, let_name hc, hw]; rfl) h1 h2
  have hns : namesL (c :: w ++ rest) = true := by
    have hf := let_facts hc
    rw [namesL, show gt (c :: w ++ rest) 0 = c from rfl, if_neg (by omega), hc]; rfl
  have htok : tokL (64 :: (c :: w ++ rest)) = (tkK 3 (runesBytes (c :: w)), rest) := by
    have hat : atL (64 :: (c :: w ++ rest)) = true := by rw [atL, show (64 :: (c :: w ++ rest)).drop 1 = c :: w ++ rest from rfl, hns]; rfl
    have hnb : numBL (64 :: (c :: w ++ rest)) = false := rfl
    rw [tokL, show gt (64 :: (c :: w ++ rest)) 0 = 64 from rfl, if_neg (plI_no (show (64 : Int) ≠ 40 ∧ (64 : Int) ≠ 91 ∧ (64 : Int) ≠ 123 ∧ (64 : Int) ≠ 41 ∧ (64 : Int) ≠ 93 ∧ (64 : Int) ≠ 125 ∧ (64 : Int) ≠ 44 ∧ (64 : Int) ≠ 58 ∧ (64 : Int) ≠ 59 by decide)), if_neg (show ¬ whiteF 64 = true by decide), if_neg (show ¬ ((64 : Int) = 34 ∨ (64 : Int) = 39) by decide), show hashL (64 :: (c :: w ++ rest)) = false from rfl, if_neg Bool.false_ne_true, hnb, if_neg Bool.false_ne_true, show cdcL (64 :: (c :: w ++ rest)) = false from rfl, if_neg Bool.false_ne_true, show cdoL (64 :: (c :: w ++ rest)) = false from rfl, if_neg Bool.false_ne_true, if_pos hat, show (64 :: (c :: w ++ rest)).drop 1 = c :: w ++ rest from rfl, hn]
  rw [toksL_at (l := 64 :: (c :: w ++ rest)) (by show (0 : Int) ≤ 64; decide) (by left; show (64 : Int) ≠ 47; decide), htok]
def atX (w : List UInt8) (n k : Nat) : List UInt8 := [64, 88] ++ w ++ (ppL n ++ fnL k)
theorem lowB_lt {c : UInt8} (h : ltB c = true) : lowB c = c := by
  rw [ltB, Bool.and_eq_true, decide_eq_true_eq, decide_eq_true_eq] at h
  exact lowB_no (by omega)
theorem low_at (w : List UInt8) (hw : wdB w = true) : lowS ⟨(88 :: w).toArray⟩ = (⟨#[120]⟩ : ByteArray) ++ ⟨w.toArray⟩ := by
  rw [wdB, Bool.and_eq_true] at hw
  have hl : lowL w = w := by
    have hall := List.all_eq_true.1 hw.2
    rw [lowL]
    conv => rhs; rw [← List.map_id w]
    exact List.map_congr_left fun c hc => lowB_lt (hall c hc)
  rw [show (⟨#[120]⟩ : ByteArray) = ⟨([120] : List UInt8).toArray⟩ from rfl, bytes_cat, lowS]
  show (⟨(lowL (88 :: w)).toArray⟩ : ByteArray) = _
  rw [lowL, List.map_cons, ← lowL, hl]
  rfl
theorem at_plb (w : List UInt8) (n k : Nat) (hn : n < 11) (hk : k < 3) (hw : wdB w = true) : (atX w n k).all plB = true := by
  obtain ⟨c, q, _, _, _, h4, _⟩ := word_head w hw
  obtain ⟨_, h5, _⟩ := at_tl n hn k hk
  rw [atX, List.all_append, List.all_append, h4, h5]
  show (_ : Bool) = true
  kernel_rfl
theorem at_nds (w : List UInt8) (n k : Nat) (hn : n < 11) (hk : k < 3) (hw : wdB w = true) : allF (atX w n k) = .mk (atT ⟨(88 :: w).toArray⟩) [] :: (ppN n ++ fnN k) := by
  obtain ⟨g1, g2, g3, g4, g5⟩ := at_tl n hn k hk
  have hw2 := hw
  rw [wdB, Bool.and_eq_true] at hw2
  have hall := List.all_eq_true.1 hw2.2
  have hq : (w.map bI).all nameF = true := by rw [List.all_map]; exact List.all_eq_true.2 fun d hd => (lt_facts (hall d hd)).2.2.1
  have hrun : runesBytes ((88 :: w).map bI) = ⟨(88 :: w).toArray⟩ := runes_ascii _ (by
    rw [List.all_cons, Bool.and_eq_true]
    exact ⟨by decide, List.all_eq_true.2 fun d hd => decide_eq_true (lt_facts (hall d hd)).2.2.2⟩)
  have e : (atX w n k).map bI = 64 :: (88 :: w.map bI ++ (ppL n ++ fnL k).map bI) := by
    rw [atX, List.map_append, List.map_append]; rfl
  have h3 := toksL_at3 88 (w.map bI) ((ppL n ++ fnL k).map bI) (by decide) hq g4 g5
  have e2 : runesBytes (88 :: w.map bI) = ⟨(88 :: w).toArray⟩ := hrun
  rw [e2] at h3
  rw [allF, allA_nodes, ← nodes_T, ← toks_L, read_pl _ (at_plb w n k hn hk hw), e, h3, show tkK 3 ⟨(88 :: w).toArray⟩ = atT ⟨(88 :: w).toArray⟩ from rfl, nodesT_leaf _ _ (by rw [clzF]; rfl), g1]
theorem at_ok (w : List UInt8) (n k : Nat) (hn : n < 11) (hk : k < 3) (hw : wdB w = true) (hl : w.length ≤ 20) : PCalls Tryz.prog 12 [.sl 1 ((atX w n k).map bD)] (.tup [.sl 4 ((rlsA n k ((⟨#[120]⟩ : ByteArray) ++ ⟨w.toArray⟩)).map rlD), .val (.int .i64 0)]) := by
  obtain ⟨g1, g2, g3, g4, g5⟩ := at_tl n hn k hk
  have hws : (⟨(88 :: w).toArray⟩ : ByteArray).size ≤ 21 := by rw [sz_list, List.length_cons]; omega
  have hfn : (fnL k).length ≤ 100 := by
    match k, hk with
    | 0, _ => decide
    | 1, _ => decide
    | 2, _ => decide
  have hlen : (atX w n k).length ≤ 65536 := by
    rw [atX, List.length_append, List.length_append, List.length_append, ppL_len, show ([64, 88] : List UInt8).length = 2 from rfl]
    omega
  have hN : ∀ x ∈ ppN n ++ fnN k, okTx x = true ∧ x.kids.all okTx = true ∧ atKB x = false := fun x hx => by
    have := List.all_eq_true.1 g3 x hx
    rw [Bool.and_eq_true, Bool.and_eq_true, Bool.not_eq_true'] at this
    exact ⟨this.1.1, this.1.2, this.2⟩
  have hs := psheet_ok (atX w n k) hlen (fun x hx => by
      rw [read_pl _ (at_plb w n k hn hk hw)] at hx
      obtain ⟨c, _, rfl⟩ := List.mem_map.1 hx
      exact Int.natCast_nonneg _) (by
      rw [at_nds w n k hn hk hw]
      intro x hx ha
      rcases List.mem_cons.1 hx with rfl | hx
      · rw [show (Nd.mk (atT ⟨(88 :: w).toArray⟩) []).tok.text = ⟨(88 :: w).toArray⟩ from rfl, low_at w hw]
        intro h0
        have := congrArg ByteArray.size h0
        rw [ByteArray.size_append, show (⟨#[120]⟩ : ByteArray).size = 1 from rfl, show (⟨#[]⟩ : ByteArray).size = 0 from rfl] at this
        omega
      · rw [(hN x hx).2.2] at ha
        cases ha) (by
      rw [at_nds w n k hn hk hw]
      intro x hx
      rcases List.mem_cons.1 hx with rfl | hx
      · exact Nat.le_trans hws (by decide)
      · exact of_decide_eq_true (hN x hx).1) (by
      rw [at_nds w n k hn hk hw]
      intro x hx m hm
      rcases List.mem_cons.1 hx with rfl | hx
      · cases hm
      · exact of_decide_eq_true (List.all_eq_true.1 (hN x hx).2.1 m hm))
  have hsh : shE (atX w n k) = (rlsA n k ((⟨#[120]⟩ : ByteArray) ++ ⟨w.toArray⟩), 0) := by
    have hle : ¬ 500 < (rlsA n k ((⟨#[120]⟩ : ByteArray) ++ ⟨w.toArray⟩)).length := by
      match k, hk with
      | 0, _ => exact (by decide : ¬ 500 < 2)
      | 1, _ => exact (by decide : ¬ 500 < 2)
      | 2, _ => exact (by decide : ¬ 500 < 1)
    rw [shE, shP, at_nds w n k hn hk hw, at_sht n hn k hk, low_at w hw, if_neg hle]
  rw [hsh] at hs
  exact hs
end Go.Proofs.YtiolnmfaeenlmaaGreatDoor
