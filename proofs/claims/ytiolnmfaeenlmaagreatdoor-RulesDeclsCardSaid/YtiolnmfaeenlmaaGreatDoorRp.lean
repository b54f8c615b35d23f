/- RulesDecls: what the text says (plain). -/
import Derived.Test.YtiolnmfaeenlmaaGreatDoorRl
import Derived.Test.YtiolnmfaeenlmaaGreatDoorr5
namespace Go.Proofs.YtiolnmfaeenlmaaGreatDoor
open Go Go.RowKit
set_option maxRecDepth 20000

theorem decLs_at (n : Nd) (q r : List Nd) (s : Nd) (h3 : n.tok.kind = 3) (hn : nabB n = true) (hq : q.all nabB = true) (hs : nabB s = false) : decLs (n :: q ++ s :: r) = decLs r := by
  have t : ∀ q : List Nd, q.all nabB = true → (q ++ s :: r).dropWhile nabB = s :: r := by
    intro q
    induction q with
    | nil => intro _; rw [List.nil_append, List.dropWhile_cons, hs]; rfl
    | cons a q ih =>
      intro h
      rw [List.all_cons, Bool.and_eq_true] at h
      rw [List.cons_append, List.dropWhile_cons, h.1, if_pos rfl, ih h.2]
  rw [decLs, List.cons_append, List.length_cons, decQ, if_neg (by rw [h3]; decide), if_pos h3, List.dropWhile_cons, hn, if_pos rfl, t q hq]
  exact decQ_fuel _ r.length r (by rw [List.length_append, List.length_cons]; omega) (Nat.le_refl _)
def wT4 : Tk := ⟨13, ⟨#[]⟩, 0, false, false, false⟩
def wd10 : Nat → List UInt8
  | 0 => [67, 111, 108, 111, 114, 58, 32, 97]
  | 1 => [45, 45, 79, 119, 110, 58, 32, 66]
  | 2 => [99, 32, 100, 58, 32, 101]
  | 3 => [102]
  | 4 => [103, 58]
  | 5 => [123, 120, 58, 121, 125, 32, 104, 58, 32, 105]
  | 6 => [106, 58, 32, 40, 107, 59, 108, 41]
  | 7 => [109, 58, 32, 91, 125]
  | 8 => [64, 110, 32, 111, 59, 112, 58, 32, 113]
  | _ => [114, 58, 32, 115, 32, 93]
def s4T : Nat → List Tk
  | 0 => [(⟨1, ⟨#[67, 111, 108, 111, 114]⟩, 0, false, false, false⟩ : Tk), (⟨16, ⟨#[]⟩, 0, false, false, false⟩ : Tk), (⟨13, ⟨#[]⟩, 0, false, false, false⟩ : Tk), (⟨1, ⟨#[97]⟩, 0, false, false, false⟩ : Tk), (⟨13, ⟨#[]⟩, 0, false, false, false⟩ : Tk), (⟨17, ⟨#[]⟩, 0, false, false, false⟩ : Tk)]
  | 1 => [(⟨1, ⟨#[45, 45, 79, 119, 110]⟩, 0, false, false, false⟩ : Tk), (⟨16, ⟨#[]⟩, 0, false, false, false⟩ : Tk), (⟨13, ⟨#[]⟩, 0, false, false, false⟩ : Tk), (⟨1, ⟨#[66]⟩, 0, false, false, false⟩ : Tk), (⟨13, ⟨#[]⟩, 0, false, false, false⟩ : Tk), (⟨17, ⟨#[]⟩, 0, false, false, false⟩ : Tk)]
  | 2 => [(⟨1, ⟨#[99]⟩, 0, false, false, false⟩ : Tk), (⟨13, ⟨#[]⟩, 0, false, false, false⟩ : Tk), (⟨1, ⟨#[100]⟩, 0, false, false, false⟩ : Tk), (⟨16, ⟨#[]⟩, 0, false, false, false⟩ : Tk), (⟨13, ⟨#[]⟩, 0, false, false, false⟩ : Tk), (⟨1, ⟨#[101]⟩, 0, false, false, false⟩ : Tk), (⟨13, ⟨#[]⟩, 0, false, false, false⟩ : Tk), (⟨17, ⟨#[]⟩, 0, false, false, false⟩ : Tk)]
  | 3 => [(⟨1, ⟨#[102]⟩, 0, false, false, false⟩ : Tk), (⟨13, ⟨#[]⟩, 0, false, false, false⟩ : Tk), (⟨17, ⟨#[]⟩, 0, false, false, false⟩ : Tk)]
  | 4 => [(⟨1, ⟨#[103]⟩, 0, false, false, false⟩ : Tk), (⟨16, ⟨#[]⟩, 0, false, false, false⟩ : Tk), (⟨13, ⟨#[]⟩, 0, false, false, false⟩ : Tk), (⟨17, ⟨#[]⟩, 0, false, false, false⟩ : Tk)]
  | 5 => [(⟨19, ⟨#[123]⟩, 0, false, false, false⟩ : Tk), (⟨1, ⟨#[120]⟩, 0, false, false, false⟩ : Tk), (⟨16, ⟨#[]⟩, 0, false, false, false⟩ : Tk), (⟨1, ⟨#[121]⟩, 0, false, false, false⟩ : Tk), (⟨20, ⟨#[125]⟩, 0, false, false, false⟩ : Tk), (⟨13, ⟨#[]⟩, 0, false, false, false⟩ : Tk), (⟨1, ⟨#[104]⟩, 0, false, false, false⟩ : Tk), (⟨16, ⟨#[]⟩, 0, false, false, false⟩ : Tk), (⟨13, ⟨#[]⟩, 0, false, false, false⟩ : Tk), (⟨1, ⟨#[105]⟩, 0, false, false, false⟩ : Tk), (⟨13, ⟨#[]⟩, 0, false, false, false⟩ : Tk), (⟨17, ⟨#[]⟩, 0, false, false, false⟩ : Tk)]
  | 6 => [(⟨1, ⟨#[106]⟩, 0, false, false, false⟩ : Tk), (⟨16, ⟨#[]⟩, 0, false, false, false⟩ : Tk), (⟨13, ⟨#[]⟩, 0, false, false, false⟩ : Tk), (⟨19, ⟨#[40]⟩, 0, false, false, false⟩ : Tk), (⟨1, ⟨#[107]⟩, 0, false, false, false⟩ : Tk), (⟨17, ⟨#[]⟩, 0, false, false, false⟩ : Tk), (⟨1, ⟨#[108]⟩, 0, false, false, false⟩ : Tk), (⟨20, ⟨#[41]⟩, 0, false, false, false⟩ : Tk), (⟨13, ⟨#[]⟩, 0, false, false, false⟩ : Tk), (⟨17, ⟨#[]⟩, 0, false, false, false⟩ : Tk)]
  | 7 => []
  | 8 => [(⟨3, ⟨#[110]⟩, 0, false, false, false⟩ : Tk), (⟨13, ⟨#[]⟩, 0, false, false, false⟩ : Tk), (⟨1, ⟨#[111]⟩, 0, false, false, false⟩ : Tk), (⟨17, ⟨#[]⟩, 0, false, false, false⟩ : Tk), (⟨1, ⟨#[112]⟩, 0, false, false, false⟩ : Tk), (⟨16, ⟨#[]⟩, 0, false, false, false⟩ : Tk), (⟨13, ⟨#[]⟩, 0, false, false, false⟩ : Tk), (⟨1, ⟨#[113]⟩, 0, false, false, false⟩ : Tk), (⟨13, ⟨#[]⟩, 0, false, false, false⟩ : Tk), (⟨17, ⟨#[]⟩, 0, false, false, false⟩ : Tk)]
  | _ => [(⟨1, ⟨#[114]⟩, 0, false, false, false⟩ : Tk), (⟨16, ⟨#[]⟩, 0, false, false, false⟩ : Tk), (⟨13, ⟨#[]⟩, 0, false, false, false⟩ : Tk), (⟨1, ⟨#[115]⟩, 0, false, false, false⟩ : Tk), (⟨13, ⟨#[]⟩, 0, false, false, false⟩ : Tk), (⟨20, ⟨#[93]⟩, 0, false, false, false⟩ : Tk), (⟨13, ⟨#[]⟩, 0, false, false, false⟩ : Tk), (⟨17, ⟨#[]⟩, 0, false, false, false⟩ : Tk)]
def s4N : Nat → List Nd
  | 0 => [lf ⟨1, ⟨#[67, 111, 108, 111, 114]⟩, 0, false, false, false⟩, lf ⟨16, ⟨#[]⟩, 0, false, false, false⟩, lf ⟨13, ⟨#[]⟩, 0, false, false, false⟩, lf ⟨1, ⟨#[97]⟩, 0, false, false, false⟩, lf ⟨13, ⟨#[]⟩, 0, false, false, false⟩, lf ⟨17, ⟨#[]⟩, 0, false, false, false⟩]
  | 1 => [lf ⟨1, ⟨#[45, 45, 79, 119, 110]⟩, 0, false, false, false⟩, lf ⟨16, ⟨#[]⟩, 0, false, false, false⟩, lf ⟨13, ⟨#[]⟩, 0, false, false, false⟩, lf ⟨1, ⟨#[66]⟩, 0, false, false, false⟩, lf ⟨13, ⟨#[]⟩, 0, false, false, false⟩, lf ⟨17, ⟨#[]⟩, 0, false, false, false⟩]
  | 2 => [lf ⟨1, ⟨#[99]⟩, 0, false, false, false⟩, lf ⟨13, ⟨#[]⟩, 0, false, false, false⟩, lf ⟨1, ⟨#[100]⟩, 0, false, false, false⟩, lf ⟨16, ⟨#[]⟩, 0, false, false, false⟩, lf ⟨13, ⟨#[]⟩, 0, false, false, false⟩, lf ⟨1, ⟨#[101]⟩, 0, false, false, false⟩, lf ⟨13, ⟨#[]⟩, 0, false, false, false⟩, lf ⟨17, ⟨#[]⟩, 0, false, false, false⟩]
  | 3 => [lf ⟨1, ⟨#[102]⟩, 0, false, false, false⟩, lf ⟨13, ⟨#[]⟩, 0, false, false, false⟩, lf ⟨17, ⟨#[]⟩, 0, false, false, false⟩]
  | 4 => [lf ⟨1, ⟨#[103]⟩, 0, false, false, false⟩, lf ⟨16, ⟨#[]⟩, 0, false, false, false⟩, lf ⟨13, ⟨#[]⟩, 0, false, false, false⟩, lf ⟨17, ⟨#[]⟩, 0, false, false, false⟩]
  | 5 => [.mk ⟨19, ⟨#[123]⟩, 0, false, false, false⟩ [lf ⟨1, ⟨#[120]⟩, 0, false, false, false⟩, lf ⟨16, ⟨#[]⟩, 0, false, false, false⟩, lf ⟨1, ⟨#[121]⟩, 0, false, false, false⟩], lf ⟨13, ⟨#[]⟩, 0, false, false, false⟩, lf ⟨1, ⟨#[104]⟩, 0, false, false, false⟩, lf ⟨16, ⟨#[]⟩, 0, false, false, false⟩, lf ⟨13, ⟨#[]⟩, 0, false, false, false⟩, lf ⟨1, ⟨#[105]⟩, 0, false, false, false⟩, lf ⟨13, ⟨#[]⟩, 0, false, false, false⟩, lf ⟨17, ⟨#[]⟩, 0, false, false, false⟩]
  | 6 => [lf ⟨1, ⟨#[106]⟩, 0, false, false, false⟩, lf ⟨16, ⟨#[]⟩, 0, false, false, false⟩, lf ⟨13, ⟨#[]⟩, 0, false, false, false⟩, .mk ⟨19, ⟨#[40]⟩, 0, false, false, false⟩ [lf ⟨1, ⟨#[107]⟩, 0, false, false, false⟩, lf ⟨17, ⟨#[]⟩, 0, false, false, false⟩, lf ⟨1, ⟨#[108]⟩, 0, false, false, false⟩], lf ⟨13, ⟨#[]⟩, 0, false, false, false⟩, lf ⟨17, ⟨#[]⟩, 0, false, false, false⟩]
  | 7 => []
  | 8 => [lf ⟨3, ⟨#[110]⟩, 0, false, false, false⟩, lf ⟨13, ⟨#[]⟩, 0, false, false, false⟩, lf ⟨1, ⟨#[111]⟩, 0, false, false, false⟩, lf ⟨17, ⟨#[]⟩, 0, false, false, false⟩, lf ⟨1, ⟨#[112]⟩, 0, false, false, false⟩, lf ⟨16, ⟨#[]⟩, 0, false, false, false⟩, lf ⟨13, ⟨#[]⟩, 0, false, false, false⟩, lf ⟨1, ⟨#[113]⟩, 0, false, false, false⟩, lf ⟨13, ⟨#[]⟩, 0, false, false, false⟩, lf ⟨17, ⟨#[]⟩, 0, false, false, false⟩]
  | _ => [lf ⟨1, ⟨#[114]⟩, 0, false, false, false⟩, lf ⟨16, ⟨#[]⟩, 0, false, false, false⟩, lf ⟨13, ⟨#[]⟩, 0, false, false, false⟩, lf ⟨1, ⟨#[115]⟩, 0, false, false, false⟩, lf ⟨13, ⟨#[]⟩, 0, false, false, false⟩, lf ⟨20, ⟨#[93]⟩, 0, false, false, false⟩, lf ⟨13, ⟨#[]⟩, 0, false, false, false⟩, lf ⟨17, ⟨#[]⟩, 0, false, false, false⟩]
def s4D : Nat → List Dc
  | 0 => [⟨⟨#[99, 111, 108, 111, 114]⟩, [lf ⟨1, ⟨#[97]⟩, 0, false, false, false⟩], false⟩]
  | 1 => [⟨⟨#[45, 45, 79, 119, 110]⟩, [lf ⟨1, ⟨#[66]⟩, 0, false, false, false⟩], false⟩]
  | 2 => []
  | 3 => []
  | 4 => []
  | 5 => []
  | 6 => [⟨⟨#[106]⟩, [.mk ⟨19, ⟨#[40]⟩, 0, false, false, false⟩ [lf ⟨1, ⟨#[107]⟩, 0, false, false, false⟩, lf ⟨17, ⟨#[]⟩, 0, false, false, false⟩, lf ⟨1, ⟨#[108]⟩, 0, false, false, false⟩]], false⟩]
  | 7 => []
  | 8 => [⟨⟨#[112]⟩, [lf ⟨1, ⟨#[113]⟩, 0, false, false, false⟩], false⟩]
  | _ => []
def nm10 : Nat → ByteArray
  | 0 => ⟨#[99, 111, 108, 111, 114]⟩
  | 1 => ⟨#[45, 45, 79, 119, 110]⟩
  | 2 => ⟨#[]⟩
  | 3 => ⟨#[]⟩
  | 4 => ⟨#[]⟩
  | 5 => ⟨#[]⟩
  | 6 => ⟨#[106]⟩
  | 7 => ⟨#[]⟩
  | 8 => ⟨#[112]⟩
  | _ => ⟨#[]⟩
def ok4 (k : Nat) : Prop := k < 10 ∧ k ≠ 7
theorem s4_toks : ∀ k, ok4 k → ∀ rest : List Int, toksL ((wd10 k ++ [32, 59]).map bI ++ rest) = s4T k ++ toksL rest
  | 0, _, rest => toks_lit 60 (by kernel_rfl) (by decide)
  | 1, _, rest => toks_lit 60 (by kernel_rfl) (by decide)
  | 2, _, rest => toks_lit 60 (by kernel_rfl) (by decide)
  | 3, _, rest => toks_lit 60 (by kernel_rfl) (by decide)
  | 4, _, rest => toks_lit 60 (by kernel_rfl) (by decide)
  | 5, _, rest => toks_lit 60 (by kernel_rfl) (by decide)
  | 6, _, rest => toks_lit 60 (by kernel_rfl) (by decide)
  | 7, h, _ => absurd rfl h.2
  | 8, _, rest => toks_lit 60 (by kernel_rfl) (by decide)
  | 9, _, rest => toks_lit 60 (by kernel_rfl) (by decide)
  | k + 10, h, _ => absurd h.1 (by omega)
theorem s4_nds : ∀ k, ok4 k → ∀ r : List Tk, nodesT (s4T k ++ r) = s4N k ++ nodesT r
  | 0, _, r => (nodesT_leaf ⟨1, ⟨#[67, 111, 108, 111, 114]⟩, 0, false, false, false⟩ _ (by kernel_rfl)).trans (congrArg ((lf ⟨1, ⟨#[67, 111, 108, 111, 114]⟩, 0, false, false, false⟩ : Nd) :: ·) ((nodesT_leaf ⟨16, ⟨#[]⟩, 0, false, false, false⟩ _ (by kernel_rfl)).trans (congrArg ((lf ⟨16, ⟨#[]⟩, 0, false, false, false⟩ : Nd) :: ·) ((nodesT_leaf ⟨13, ⟨#[]⟩, 0, false, false, false⟩ _ (by kernel_rfl)).trans (congrArg ((lf ⟨13, ⟨#[]⟩, 0, false, false, false⟩ : Nd) :: ·) ((nodesT_leaf ⟨1, ⟨#[97]⟩, 0, false, false, false⟩ _ (by kernel_rfl)).trans (congrArg ((lf ⟨1, ⟨#[97]⟩, 0, false, false, false⟩ : Nd) :: ·) ((nodesT_leaf ⟨13, ⟨#[]⟩, 0, false, false, false⟩ _ (by kernel_rfl)).trans (congrArg ((lf ⟨13, ⟨#[]⟩, 0, false, false, false⟩ : Nd) :: ·) ((nodesT_leaf ⟨17, ⟨#[]⟩, 0, false, false, false⟩ _ (by kernel_rfl)).trans (congrArg ((lf ⟨17, ⟨#[]⟩, 0, false, false, false⟩ : Nd) :: ·) (rfl))))))))))))
  | 1, _, r => (nodesT_leaf ⟨1, ⟨#[45, 45, 79, 119, 110]⟩, 0, false, false, false⟩ _ (by kernel_rfl)).trans (congrArg ((lf ⟨1, ⟨#[45, 45, 79, 119, 110]⟩, 0, false, false, false⟩ : Nd) :: ·) ((nodesT_leaf ⟨16, ⟨#[]⟩, 0, false, false, false⟩ _ (by kernel_rfl)).trans (congrArg ((lf ⟨16, ⟨#[]⟩, 0, false, false, false⟩ : Nd) :: ·) ((nodesT_leaf ⟨13, ⟨#[]⟩, 0, false, false, false⟩ _ (by kernel_rfl)).trans (congrArg ((lf ⟨13, ⟨#[]⟩, 0, false, false, false⟩ : Nd) :: ·) ((nodesT_leaf ⟨1, ⟨#[66]⟩, 0, false, false, false⟩ _ (by kernel_rfl)).trans (congrArg ((lf ⟨1, ⟨#[66]⟩, 0, false, false, false⟩ : Nd) :: ·) ((nodesT_leaf ⟨13, ⟨#[]⟩, 0, false, false, false⟩ _ (by kernel_rfl)).trans (congrArg ((lf ⟨13, ⟨#[]⟩, 0, false, false, false⟩ : Nd) :: ·) ((nodesT_leaf ⟨17, ⟨#[]⟩, 0, false, false, false⟩ _ (by kernel_rfl)).trans (congrArg ((lf ⟨17, ⟨#[]⟩, 0, false, false, false⟩ : Nd) :: ·) (rfl))))))))))))
  | 2, _, r => (nodesT_leaf ⟨1, ⟨#[99]⟩, 0, false, false, false⟩ _ (by kernel_rfl)).trans (congrArg ((lf ⟨1, ⟨#[99]⟩, 0, false, false, false⟩ : Nd) :: ·) ((nodesT_leaf ⟨13, ⟨#[]⟩, 0, false, false, false⟩ _ (by kernel_rfl)).trans (congrArg ((lf ⟨13, ⟨#[]⟩, 0, false, false, false⟩ : Nd) :: ·) ((nodesT_leaf ⟨1, ⟨#[100]⟩, 0, false, false, false⟩ _ (by kernel_rfl)).trans (congrArg ((lf ⟨1, ⟨#[100]⟩, 0, false, false, false⟩ : Nd) :: ·) ((nodesT_leaf ⟨16, ⟨#[]⟩, 0, false, false, false⟩ _ (by kernel_rfl)).trans (congrArg ((lf ⟨16, ⟨#[]⟩, 0, false, false, false⟩ : Nd) :: ·) ((nodesT_leaf ⟨13, ⟨#[]⟩, 0, false, false, false⟩ _ (by kernel_rfl)).trans (congrArg ((lf ⟨13, ⟨#[]⟩, 0, false, false, false⟩ : Nd) :: ·) ((nodesT_leaf ⟨1, ⟨#[101]⟩, 0, false, false, false⟩ _ (by kernel_rfl)).trans (congrArg ((lf ⟨1, ⟨#[101]⟩, 0, false, false, false⟩ : Nd) :: ·) ((nodesT_leaf ⟨13, ⟨#[]⟩, 0, false, false, false⟩ _ (by kernel_rfl)).trans (congrArg ((lf ⟨13, ⟨#[]⟩, 0, false, false, false⟩ : Nd) :: ·) ((nodesT_leaf ⟨17, ⟨#[]⟩, 0, false, false, false⟩ _ (by kernel_rfl)).trans (congrArg ((lf ⟨17, ⟨#[]⟩, 0, false, false, false⟩ : Nd) :: ·) (rfl))))))))))))))))
  | 3, _, r => (nodesT_leaf ⟨1, ⟨#[102]⟩, 0, false, false, false⟩ _ (by kernel_rfl)).trans (congrArg ((lf ⟨1, ⟨#[102]⟩, 0, false, false, false⟩ : Nd) :: ·) ((nodesT_leaf ⟨13, ⟨#[]⟩, 0, false, false, false⟩ _ (by kernel_rfl)).trans (congrArg ((lf ⟨13, ⟨#[]⟩, 0, false, false, false⟩ : Nd) :: ·) ((nodesT_leaf ⟨17, ⟨#[]⟩, 0, false, false, false⟩ _ (by kernel_rfl)).trans (congrArg ((lf ⟨17, ⟨#[]⟩, 0, false, false, false⟩ : Nd) :: ·) (rfl))))))
  | 4, _, r => (nodesT_leaf ⟨1, ⟨#[103]⟩, 0, false, false, false⟩ _ (by kernel_rfl)).trans (congrArg ((lf ⟨1, ⟨#[103]⟩, 0, false, false, false⟩ : Nd) :: ·) ((nodesT_leaf ⟨16, ⟨#[]⟩, 0, false, false, false⟩ _ (by kernel_rfl)).trans (congrArg ((lf ⟨16, ⟨#[]⟩, 0, false, false, false⟩ : Nd) :: ·) ((nodesT_leaf ⟨13, ⟨#[]⟩, 0, false, false, false⟩ _ (by kernel_rfl)).trans (congrArg ((lf ⟨13, ⟨#[]⟩, 0, false, false, false⟩ : Nd) :: ·) ((nodesT_leaf ⟨17, ⟨#[]⟩, 0, false, false, false⟩ _ (by kernel_rfl)).trans (congrArg ((lf ⟨17, ⟨#[]⟩, 0, false, false, false⟩ : Nd) :: ·) (rfl))))))))
  | 5, _, r => (nodesT_open ⟨19, ⟨#[123]⟩, 0, false, false, false⟩ [(⟨1, ⟨#[120]⟩, 0, false, false, false⟩ : Tk), (⟨16, ⟨#[]⟩, 0, false, false, false⟩ : Tk), (⟨1, ⟨#[121]⟩, 0, false, false, false⟩ : Tk)] ⟨20, ⟨#[125]⟩, 0, false, false, false⟩ _ (by decide) (by kernel_rfl) (by kernel_rfl)).trans (congrArg ((.mk ⟨19, ⟨#[123]⟩, 0, false, false, false⟩ [lf ⟨1, ⟨#[120]⟩, 0, false, false, false⟩, lf ⟨16, ⟨#[]⟩, 0, false, false, false⟩, lf ⟨1, ⟨#[121]⟩, 0, false, false, false⟩] : Nd) :: ·) ((nodesT_leaf ⟨13, ⟨#[]⟩, 0, false, false, false⟩ _ (by kernel_rfl)).trans (congrArg ((lf ⟨13, ⟨#[]⟩, 0, false, false, false⟩ : Nd) :: ·) ((nodesT_leaf ⟨1, ⟨#[104]⟩, 0, false, false, false⟩ _ (by kernel_rfl)).trans (congrArg ((lf ⟨1, ⟨#[104]⟩, 0, false, false, false⟩ : Nd) :: ·) ((nodesT_leaf ⟨16, ⟨#[]⟩, 0, false, false, false⟩ _ (by kernel_rfl)).trans (congrArg ((lf ⟨16, ⟨#[]⟩, 0, false, false, false⟩ : Nd) :: ·) ((nodesT_leaf ⟨13, ⟨#[]⟩, 0, false, false, false⟩ _ (by kernel_rfl)).trans (congrArg ((lf ⟨13, ⟨#[]⟩, 0, false, false, false⟩ : Nd) :: ·) ((nodesT_leaf ⟨1, ⟨#[105]⟩, 0, false, false, false⟩ _ (by kernel_rfl)).trans (congrArg ((lf ⟨1, ⟨#[105]⟩, 0, false, false, false⟩ : Nd) :: ·) ((nodesT_leaf ⟨13, ⟨#[]⟩, 0, false, false, false⟩ _ (by kernel_rfl)).trans (congrArg ((lf ⟨13, ⟨#[]⟩, 0, false, false, false⟩ : Nd) :: ·) ((nodesT_leaf ⟨17, ⟨#[]⟩, 0, false, false, false⟩ _ (by kernel_rfl)).trans (congrArg ((lf ⟨17, ⟨#[]⟩, 0, false, false, false⟩ : Nd) :: ·) (rfl))))))))))))))))
  | 6, _, r => (nodesT_leaf ⟨1, ⟨#[106]⟩, 0, false, false, false⟩ _ (by kernel_rfl)).trans (congrArg ((lf ⟨1, ⟨#[106]⟩, 0, false, false, false⟩ : Nd) :: ·) ((nodesT_leaf ⟨16, ⟨#[]⟩, 0, false, false, false⟩ _ (by kernel_rfl)).trans (congrArg ((lf ⟨16, ⟨#[]⟩, 0, false, false, false⟩ : Nd) :: ·) ((nodesT_leaf ⟨13, ⟨#[]⟩, 0, false, false, false⟩ _ (by kernel_rfl)).trans (congrArg ((lf ⟨13, ⟨#[]⟩, 0, false, false, false⟩ : Nd) :: ·) ((nodesT_open ⟨19, ⟨#[40]⟩, 0, false, false, false⟩ [(⟨1, ⟨#[107]⟩, 0, false, false, false⟩ : Tk), (⟨17, ⟨#[]⟩, 0, false, false, false⟩ : Tk), (⟨1, ⟨#[108]⟩, 0, false, false, false⟩ : Tk)] ⟨20, ⟨#[41]⟩, 0, false, false, false⟩ _ (by decide) (by kernel_rfl) (by kernel_rfl)).trans (congrArg ((.mk ⟨19, ⟨#[40]⟩, 0, false, false, false⟩ [lf ⟨1, ⟨#[107]⟩, 0, false, false, false⟩, lf ⟨17, ⟨#[]⟩, 0, false, false, false⟩, lf ⟨1, ⟨#[108]⟩, 0, false, false, false⟩] : Nd) :: ·) ((nodesT_leaf ⟨13, ⟨#[]⟩, 0, false, false, false⟩ _ (by kernel_rfl)).trans (congrArg ((lf ⟨13, ⟨#[]⟩, 0, false, false, false⟩ : Nd) :: ·) ((nodesT_leaf ⟨17, ⟨#[]⟩, 0, false, false, false⟩ _ (by kernel_rfl)).trans (congrArg ((lf ⟨17, ⟨#[]⟩, 0, false, false, false⟩ : Nd) :: ·) (rfl))))))))))))
  | 7, h, _ => absurd rfl h.2
  | 8, _, r => (nodesT_leaf ⟨3, ⟨#[110]⟩, 0, false, false, false⟩ _ (by kernel_rfl)).trans (congrArg ((lf ⟨3, ⟨#[110]⟩, 0, false, false, false⟩ : Nd) :: ·) ((nodesT_leaf ⟨13, ⟨#[]⟩, 0, false, false, false⟩ _ (by kernel_rfl)).trans (congrArg ((lf ⟨13, ⟨#[]⟩, 0, false, false, false⟩ : Nd) :: ·) ((nodesT_leaf ⟨1, ⟨#[111]⟩, 0, false, false, false⟩ _ (by kernel_rfl)).trans (congrArg ((lf ⟨1, ⟨#[111]⟩, 0, false, false, false⟩ : Nd) :: ·) ((nodesT_leaf ⟨17, ⟨#[]⟩, 0, false, false, false⟩ _ (by kernel_rfl)).trans (congrArg ((lf ⟨17, ⟨#[]⟩, 0, false, false, false⟩ : Nd) :: ·) ((nodesT_leaf ⟨1, ⟨#[112]⟩, 0, false, false, false⟩ _ (by kernel_rfl)).trans (congrArg ((lf ⟨1, ⟨#[112]⟩, 0, false, false, false⟩ : Nd) :: ·) ((nodesT_leaf ⟨16, ⟨#[]⟩, 0, false, false, false⟩ _ (by kernel_rfl)).trans (congrArg ((lf ⟨16, ⟨#[]⟩, 0, false, false, false⟩ : Nd) :: ·) ((nodesT_leaf ⟨13, ⟨#[]⟩, 0, false, false, false⟩ _ (by kernel_rfl)).trans (congrArg ((lf ⟨13, ⟨#[]⟩, 0, false, false, false⟩ : Nd) :: ·) ((nodesT_leaf ⟨1, ⟨#[113]⟩, 0, false, false, false⟩ _ (by kernel_rfl)).trans (congrArg ((lf ⟨1, ⟨#[113]⟩, 0, false, false, false⟩ : Nd) :: ·) ((nodesT_leaf ⟨13, ⟨#[]⟩, 0, false, false, false⟩ _ (by kernel_rfl)).trans (congrArg ((lf ⟨13, ⟨#[]⟩, 0, false, false, false⟩ : Nd) :: ·) ((nodesT_leaf ⟨17, ⟨#[]⟩, 0, false, false, false⟩ _ (by kernel_rfl)).trans (congrArg ((lf ⟨17, ⟨#[]⟩, 0, false, false, false⟩ : Nd) :: ·) (rfl))))))))))))))))))))
  | 9, _, r => (nodesT_leaf ⟨1, ⟨#[114]⟩, 0, false, false, false⟩ _ (by kernel_rfl)).trans (congrArg ((lf ⟨1, ⟨#[114]⟩, 0, false, false, false⟩ : Nd) :: ·) ((nodesT_leaf ⟨16, ⟨#[]⟩, 0, false, false, false⟩ _ (by kernel_rfl)).trans (congrArg ((lf ⟨16, ⟨#[]⟩, 0, false, false, false⟩ : Nd) :: ·) ((nodesT_leaf ⟨13, ⟨#[]⟩, 0, false, false, false⟩ _ (by kernel_rfl)).trans (congrArg ((lf ⟨13, ⟨#[]⟩, 0, false, false, false⟩ : Nd) :: ·) ((nodesT_leaf ⟨1, ⟨#[115]⟩, 0, false, false, false⟩ _ (by kernel_rfl)).trans (congrArg ((lf ⟨1, ⟨#[115]⟩, 0, false, false, false⟩ : Nd) :: ·) ((nodesT_leaf ⟨13, ⟨#[]⟩, 0, false, false, false⟩ _ (by kernel_rfl)).trans (congrArg ((lf ⟨13, ⟨#[]⟩, 0, false, false, false⟩ : Nd) :: ·) ((nodesT_leaf ⟨20, ⟨#[93]⟩, 0, false, false, false⟩ _ (by kernel_rfl)).trans (congrArg ((lf ⟨20, ⟨#[93]⟩, 0, false, false, false⟩ : Nd) :: ·) ((nodesT_leaf ⟨13, ⟨#[]⟩, 0, false, false, false⟩ _ (by kernel_rfl)).trans (congrArg ((lf ⟨13, ⟨#[]⟩, 0, false, false, false⟩ : Nd) :: ·) ((nodesT_leaf ⟨17, ⟨#[]⟩, 0, false, false, false⟩ _ (by kernel_rfl)).trans (congrArg ((lf ⟨17, ⟨#[]⟩, 0, false, false, false⟩ : Nd) :: ·) (rfl))))))))))))))))
  | k + 10, h, _ => absurd h.1 (by omega)
theorem s4_dec : ∀ k, ok4 k → ∀ r : List Nd, decLs (s4N k ++ r) = s4D k ++ decLs r
  | 0, _, r => (decLs_seg (lf ⟨1, ⟨#[67, 111, 108, 111, 114]⟩, 0, false, false, false⟩) [lf ⟨16, ⟨#[]⟩, 0, false, false, false⟩, lf ⟨13, ⟨#[]⟩, 0, false, false, false⟩, lf ⟨1, ⟨#[97]⟩, 0, false, false, false⟩, lf ⟨13, ⟨#[]⟩, 0, false, false, false⟩] r (lf ⟨17, ⟨#[]⟩, 0, false, false, false⟩) rfl (by decide) rfl rfl).trans (congrArg (· ++ decLs r) (by kernel_rfl))
  | 1, _, r => (decLs_seg (lf ⟨1, ⟨#[45, 45, 79, 119, 110]⟩, 0, false, false, false⟩) [lf ⟨16, ⟨#[]⟩, 0, false, false, false⟩, lf ⟨13, ⟨#[]⟩, 0, false, false, false⟩, lf ⟨1, ⟨#[66]⟩, 0, false, false, false⟩, lf ⟨13, ⟨#[]⟩, 0, false, false, false⟩] r (lf ⟨17, ⟨#[]⟩, 0, false, false, false⟩) rfl (by decide) rfl rfl).trans (congrArg (· ++ decLs r) (by kernel_rfl))
  | 2, _, r => (decLs_seg (lf ⟨1, ⟨#[99]⟩, 0, false, false, false⟩) [lf ⟨13, ⟨#[]⟩, 0, false, false, false⟩, lf ⟨1, ⟨#[100]⟩, 0, false, false, false⟩, lf ⟨16, ⟨#[]⟩, 0, false, false, false⟩, lf ⟨13, ⟨#[]⟩, 0, false, false, false⟩, lf ⟨1, ⟨#[101]⟩, 0, false, false, false⟩, lf ⟨13, ⟨#[]⟩, 0, false, false, false⟩] r (lf ⟨17, ⟨#[]⟩, 0, false, false, false⟩) rfl (by decide) rfl rfl).trans (congrArg (· ++ decLs r) (by kernel_rfl))
  | 3, _, r => (decLs_seg (lf ⟨1, ⟨#[102]⟩, 0, false, false, false⟩) [lf ⟨13, ⟨#[]⟩, 0, false, false, false⟩] r (lf ⟨17, ⟨#[]⟩, 0, false, false, false⟩) rfl (by decide) rfl rfl).trans (congrArg (· ++ decLs r) (by kernel_rfl))
  | 4, _, r => (decLs_seg (lf ⟨1, ⟨#[103]⟩, 0, false, false, false⟩) [lf ⟨16, ⟨#[]⟩, 0, false, false, false⟩, lf ⟨13, ⟨#[]⟩, 0, false, false, false⟩] r (lf ⟨17, ⟨#[]⟩, 0, false, false, false⟩) rfl (by decide) rfl rfl).trans (congrArg (· ++ decLs r) (by kernel_rfl))
  | 5, _, r => (decLs_seg (.mk ⟨19, ⟨#[123]⟩, 0, false, false, false⟩ [lf ⟨1, ⟨#[120]⟩, 0, false, false, false⟩, lf ⟨16, ⟨#[]⟩, 0, false, false, false⟩, lf ⟨1, ⟨#[121]⟩, 0, false, false, false⟩]) [lf ⟨13, ⟨#[]⟩, 0, false, false, false⟩, lf ⟨1, ⟨#[104]⟩, 0, false, false, false⟩, lf ⟨16, ⟨#[]⟩, 0, false, false, false⟩, lf ⟨13, ⟨#[]⟩, 0, false, false, false⟩, lf ⟨1, ⟨#[105]⟩, 0, false, false, false⟩, lf ⟨13, ⟨#[]⟩, 0, false, false, false⟩] r (lf ⟨17, ⟨#[]⟩, 0, false, false, false⟩) rfl (by decide) rfl rfl).trans (congrArg (· ++ decLs r) (by kernel_rfl))
  | 6, _, r => (decLs_seg (lf ⟨1, ⟨#[106]⟩, 0, false, false, false⟩) [lf ⟨16, ⟨#[]⟩, 0, false, false, false⟩, lf ⟨13, ⟨#[]⟩, 0, false, false, false⟩, .mk ⟨19, ⟨#[40]⟩, 0, false, false, false⟩ [lf ⟨1, ⟨#[107]⟩, 0, false, false, false⟩, lf ⟨17, ⟨#[]⟩, 0, false, false, false⟩, lf ⟨1, ⟨#[108]⟩, 0, false, false, false⟩], lf ⟨13, ⟨#[]⟩, 0, false, false, false⟩] r (lf ⟨17, ⟨#[]⟩, 0, false, false, false⟩) rfl (by decide) rfl rfl).trans (congrArg (· ++ decLs r) (by kernel_rfl))
  | 7, h, _ => absurd rfl h.2
  | 8, _, r => (decLs_at (lf ⟨3, ⟨#[110]⟩, 0, false, false, false⟩) [lf ⟨13, ⟨#[]⟩, 0, false, false, false⟩, lf ⟨1, ⟨#[111]⟩, 0, false, false, false⟩] ([lf ⟨1, ⟨#[112]⟩, 0, false, false, false⟩, lf ⟨16, ⟨#[]⟩, 0, false, false, false⟩, lf ⟨13, ⟨#[]⟩, 0, false, false, false⟩, lf ⟨1, ⟨#[113]⟩, 0, false, false, false⟩, lf ⟨13, ⟨#[]⟩, 0, false, false, false⟩, lf ⟨17, ⟨#[]⟩, 0, false, false, false⟩] ++ r) (lf ⟨17, ⟨#[]⟩, 0, false, false, false⟩) rfl rfl rfl rfl).trans ((decLs_seg (lf ⟨1, ⟨#[112]⟩, 0, false, false, false⟩) [lf ⟨16, ⟨#[]⟩, 0, false, false, false⟩, lf ⟨13, ⟨#[]⟩, 0, false, false, false⟩, lf ⟨1, ⟨#[113]⟩, 0, false, false, false⟩, lf ⟨13, ⟨#[]⟩, 0, false, false, false⟩] r (lf ⟨17, ⟨#[]⟩, 0, false, false, false⟩) rfl (by decide) rfl rfl).trans (congrArg (· ++ decLs r) (by kernel_rfl)))
  | 9, _, r => (decLs_seg (lf ⟨1, ⟨#[114]⟩, 0, false, false, false⟩) [lf ⟨16, ⟨#[]⟩, 0, false, false, false⟩, lf ⟨13, ⟨#[]⟩, 0, false, false, false⟩, lf ⟨1, ⟨#[115]⟩, 0, false, false, false⟩, lf ⟨13, ⟨#[]⟩, 0, false, false, false⟩, lf ⟨20, ⟨#[93]⟩, 0, false, false, false⟩, lf ⟨13, ⟨#[]⟩, 0, false, false, false⟩] r (lf ⟨17, ⟨#[]⟩, 0, false, false, false⟩) rfl (by decide) rfl rfl).trans (congrArg (· ++ decLs r) (by kernel_rfl))
  | k + 10, h, _ => absurd h.1 (by omega)
theorem s4_pl : ∀ k, ok4 k → (wd10 k).all plB = true ∧ (wd10 k).length ≤ 20 ∧ (s4N k).all (fun n => okTx n && decide (nsz n ≤ 20)) = true ∧ (s4N k).length ≤ 20 ∧ (s4T k).length ≤ 20
  | 0, _ => ⟨by kernel_rfl, by decide, by kernel_rfl, by decide, by decide⟩
  | 1, _ => ⟨by kernel_rfl, by decide, by kernel_rfl, by decide, by decide⟩
  | 2, _ => ⟨by kernel_rfl, by decide, by kernel_rfl, by decide, by decide⟩
  | 3, _ => ⟨by kernel_rfl, by decide, by kernel_rfl, by decide, by decide⟩
  | 4, _ => ⟨by kernel_rfl, by decide, by kernel_rfl, by decide, by decide⟩
  | 5, _ => ⟨by kernel_rfl, by decide, by kernel_rfl, by decide, by decide⟩
  | 6, _ => ⟨by kernel_rfl, by decide, by kernel_rfl, by decide, by decide⟩
  | 7, h => absurd rfl h.2
  | 8, _ => ⟨by kernel_rfl, by decide, by kernel_rfl, by decide, by decide⟩
  | 9, _ => ⟨by kernel_rfl, by decide, by kernel_rfl, by decide, by decide⟩
  | k + 10, h => absurd h.1 (by omega)
theorem s4_head : ∀ k, ok4 k → ∀ r : List Int, whiteF (gt ((wd10 k).map bI ++ r) 0) = false
  | 0, _, r => by kernel_rfl
  | 1, _, r => by kernel_rfl
  | 2, _, r => by kernel_rfl
  | 3, _, r => by kernel_rfl
  | 4, _, r => by kernel_rfl
  | 5, _, r => by kernel_rfl
  | 6, _, r => by kernel_rfl
  | 7, h, _ => absurd rfl h.2
  | 8, _, r => by kernel_rfl
  | 9, _, r => by kernel_rfl
  | k + 10, h, _ => absurd h.1 (by omega)
/-- What each declaration is. -/
def fine4 (d : Dc) : Bool := decide (0 < d.value.length) && !decide ((ndAt d.value 0).tok.kind = 13) && !d.imp && decide (d.value.length ≤ 20)
theorem s4_fine : ∀ k, ok4 k → (s4D k).all fine4 = true ∧ (s4D k).map (·.name) = (if nm10 k = ⟨#[]⟩ then [] else [nm10 k])
  | 0, _ => ⟨by kernel_rfl, by decide⟩
  | 1, _ => ⟨by kernel_rfl, by decide⟩
  | 2, _ => ⟨by kernel_rfl, by decide⟩
  | 3, _ => ⟨by kernel_rfl, by decide⟩
  | 4, _ => ⟨by kernel_rfl, by decide⟩
  | 5, _ => ⟨by kernel_rfl, by decide⟩
  | 6, _ => ⟨by kernel_rfl, by decide⟩
  | 7, h => absurd rfl h.2
  | 8, _ => ⟨by kernel_rfl, by decide⟩
  | 9, _ => ⟨by kernel_rfl, by decide⟩
  | k + 10, h => absurd h.1 (by omega)
def t4L (ks : List Nat) : List UInt8 := (ks.map fun k => wd10 k ++ [32, 59, 32]).flatten
def t4T (ks : List Nat) : List Tk := (ks.map fun k => s4T k ++ [wT4]).flatten
def t4N (ks : List Nat) : List Nd := (ks.map fun k => s4N k ++ [lf wT4]).flatten
def t4D (ks : List Nat) : List Dc := (ks.map s4D).flatten
theorem t4_head (ks : List Nat) (h : ∀ k ∈ ks, ok4 k) : whiteF (gt ((t4L ks).map bI) 0) = false := by
  cases ks with
  | nil => decide
  | cons k r =>
    have e : (t4L (k :: r)).map bI = (wd10 k).map bI ++ (([32, 59, 32] : List UInt8).map bI ++ (t4L r).map bI) := by
      rw [show t4L (k :: r) = (wd10 k ++ [32, 59, 32]) ++ t4L r from rfl, List.map_append, List.map_append, List.append_assoc]
    rw [e]
    exact s4_head k (h k (by simp)) _
theorem t4_toks : ∀ (ks : List Nat) (_ : ∀ k ∈ ks, ok4 k), toksL ((t4L ks).map bI) = t4T ks
  | [], _ => toksL_nil
  | k :: r, h => by
    have hr : ∀ j ∈ r, ok4 j := fun j hj => h j (List.mem_cons_of_mem _ hj)
    have e : (t4L (k :: r)).map bI = (wd10 k ++ [32, 59]).map bI ++ (32 :: [] ++ (t4L r).map bI) := by
      rw [show t4L (k :: r) = (wd10 k ++ [32, 59, 32]) ++ t4L r from rfl, show (wd10 k ++ [32, 59, 32] : List UInt8) = (wd10 k ++ [32, 59]) ++ [32] by rw [List.append_assoc]; rfl, List.map_append, List.map_append, List.append_assoc]
      rfl
    rw [e, s4_toks k (h k (by simp)), toksL_white 32 [] _ rfl (t4_head r hr), t4_toks r hr, show t4T (k :: r) = (s4T k ++ [wT4]) ++ t4T r from rfl, List.append_assoc]
    rfl
theorem t4_nds : ∀ (ks : List Nat) (_ : ∀ k ∈ ks, ok4 k), nodesT (t4T ks) = t4N ks
  | [], _ => nodesT_nil
  | k :: r, h => by
    rw [show t4T (k :: r) = (s4T k ++ [wT4]) ++ t4T r from rfl, List.append_assoc, s4_nds k (h k (by simp)), show [wT4] ++ t4T r = wT4 :: t4T r from rfl, nodesT_leaf wT4 _ (by kernel_rfl), t4_nds r (fun j hj => h j (List.mem_cons_of_mem _ hj)), show t4N (k :: r) = (s4N k ++ [lf wT4]) ++ t4N r from rfl, List.append_assoc]
    rfl
theorem t4_dec : ∀ (ks : List Nat) (_ : ∀ k ∈ ks, ok4 k), decLs (t4N ks) = t4D ks
  | [], _ => decLs_nil
  | k :: r, h => by
    rw [show t4N (k :: r) = (s4N k ++ [lf wT4]) ++ t4N r from rfl, List.append_assoc, s4_dec k (h k (by simp)), show [lf wT4] ++ t4N r = lf wT4 :: t4N r from rfl, decLs_skip (lf wT4) _ (by kernel_rfl), t4_dec r (fun j hj => h j (List.mem_cons_of_mem _ hj))]
    rfl
theorem t4_pl : ∀ (ks : List Nat) (_ : ∀ k ∈ ks, ok4 k), (t4L ks).all plB = true ∧ (t4L ks).length ≤ 23 * ks.length ∧ (t4N ks).all okTx = true ∧ nszs (t4N ks) ≤ 1000 * ks.length
  | [], _ => ⟨rfl, Nat.le_refl _, rfl, Nat.le_refl _⟩
  | k :: r, h => by
    obtain ⟨h1, h2, h3, h4⟩ := t4_pl r (fun j hj => h j (List.mem_cons_of_mem _ hj))
    obtain ⟨g1, g2, g3, g4, g5⟩ := s4_pl k (h k (by simp))
    have g6 : (s4N k).all okTx = true := List.all_eq_true.2 fun n hn => by
      have := List.all_eq_true.1 g3 n hn
      rw [Bool.and_eq_true] at this
      exact this.1
    have g7 : ∀ l : List Nd, (l.all fun n => okTx n && decide (nsz n ≤ 20)) = true → nszs l ≤ 21 * l.length := by
      intro l
      induction l with
      | nil => exact fun _ => Nat.le_refl _
      | cons a q ih =>
        intro hl
        rw [List.all_cons, Bool.and_eq_true, Bool.and_eq_true, decide_eq_true_eq] at hl
        have := ih hl.2
        rw [nszs, List.length_cons]
        have := hl.1.2
        omega
    have g8 := g7 _ g3
    rw [show t4L (k :: r) = (wd10 k ++ [32, 59, 32]) ++ t4L r from rfl, show t4N (k :: r) = (s4N k ++ [lf wT4]) ++ t4N r from rfl, List.all_append, List.all_append, g1, h1, List.all_append, List.all_append, g6, h3, nszs_append, nszs_append, List.length_append, List.length_append]
    have g9 : nszs [lf wT4] ≤ 3 := by decide
    have g0 : (k :: r).length = r.length + 1 := rfl
    have g10 : ([32, 59, 32] : List UInt8).length = 3 := rfl
    exact ⟨by kernel_rfl, by omega, by kernel_rfl, by omega⟩
theorem nds4 (ks : List Nat) (h : ∀ k ∈ ks, ok4 k) : ndsF ⟨(t4L ks).toArray⟩ = t4N ks := by
  have h1 : ndsF ⟨(t4L ks).toArray⟩ = nodesT (toks ⟨(t4L ks).toArray⟩) := (nodes_T _).symm
  have h2 : toks ⟨(t4L ks).toArray⟩ = toksF (readL ⟨(t4L ks).toArray⟩) := rfl
  rw [h1, h2, ← toks_L, read_pl _ (t4_pl ks h).1, t4_toks ks h, t4_nds ks h]
theorem dec4 (ks : List Nat) (h : ∀ k ∈ ks, ok4 k) : decA (t4N ks) 0 = t4D ks := by rw [decA_Ls, t4_dec ks h]
theorem fine4_all : ∀ (ks : List Nat) (_ : ∀ k ∈ ks, ok4 k), (t4D ks).all fine4 = true
  | [], _ => rfl
  | k :: r, h => by
    rw [show t4D (k :: r) = s4D k ++ t4D r from rfl, List.all_append, (s4_fine k (h k (by simp))).1, fine4_all r (fun j hj => h j (List.mem_cons_of_mem _ hj))]
    rfl
end Go.Proofs.YtiolnmfaeenlmaaGreatDoor
