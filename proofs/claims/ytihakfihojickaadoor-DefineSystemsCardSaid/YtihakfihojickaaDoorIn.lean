/- DefineSystems: what the text says (plain). -/
import Derived.Test.YtihakfihojickaaDoorIk
namespace Go.Proofs.YtihakfihojickaaDoor
open Go Go.RowKit
set_option maxRecDepth 20000

theorem of_range {α : Type} {f g : Nat → α} {k : Nat} (h : (List.range k).map f = (List.range k).map g) : ∀ n, n < k → f n = g n := by
  intro n hn
  have h1 := congrArg (fun l => l[n]?) h
  simpa [List.getElem?_map, List.getElem?_range hn] using h1
def smT : Tk := ⟨17, ⟨#[]⟩, 0, false, false, false⟩
def shL : Nat → List UInt8
  | 0 => [64, 99, 111, 117, 110, 116, 101, 114, 45, 115, 116, 121, 108, 101, 32, 107, 32, 123, 32, 115, 121, 115, 116, 101, 109, 58, 32, 99, 121, 99, 108, 105, 99, 59]
  | 1 => [64, 99, 111, 117, 110, 116, 101, 114, 45, 115, 116, 121, 108, 101, 32, 107, 32, 123, 32, 115, 121, 115, 116, 101, 109, 58, 32, 102, 105, 120, 101, 100, 59]
  | 2 => [64, 99, 111, 117, 110, 116, 101, 114, 45, 115, 116, 121, 108, 101, 32, 107, 32, 123, 32, 115, 121, 115, 116, 101, 109, 58, 32, 115, 121, 109, 98, 111, 108, 105, 99, 59]
  | 3 => [64, 99, 111, 117, 110, 116, 101, 114, 45, 115, 116, 121, 108, 101, 32, 107, 32, 123, 32, 115, 121, 115, 116, 101, 109, 58, 32, 97, 108, 112, 104, 97, 98, 101, 116, 105, 99, 59]
  | 4 => [64, 99, 111, 117, 110, 116, 101, 114, 45, 115, 116, 121, 108, 101, 32, 107, 32, 123, 32, 115, 121, 115, 116, 101, 109, 58, 32, 110, 117, 109, 101, 114, 105, 99, 59]
  | 5 => [64, 99, 111, 117, 110, 116, 101, 114, 45, 115, 116, 121, 108, 101, 32, 107, 32, 123, 32, 115, 121, 115, 116, 101, 109, 58, 32, 97, 100, 100, 105, 116, 105, 118, 101, 59]
  | 6 => [64, 99, 111, 117, 110, 116, 101, 114, 45, 115, 116, 121, 108, 101, 32, 107, 32, 123, 32, 115, 121, 115, 116, 101, 109, 58, 32, 101, 120, 116, 101, 110, 100, 115, 32, 100, 105, 115, 99, 59]
  | _ => []
def shK : Nat → List Tk
  | 0 => [(⟨13, ⟨#[]⟩, 0, false, false, false⟩ : Tk), (⟨1, ⟨#[115, 121, 115, 116, 101, 109]⟩, 0, false, false, false⟩ : Tk), (⟨16, ⟨#[]⟩, 0, false, false, false⟩ : Tk), (⟨13, ⟨#[]⟩, 0, false, false, false⟩ : Tk), (⟨1, ⟨#[99, 121, 99, 108, 105, 99]⟩, 0, false, false, false⟩ : Tk), (⟨17, ⟨#[]⟩, 0, false, false, false⟩ : Tk)]
  | 1 => [(⟨13, ⟨#[]⟩, 0, false, false, false⟩ : Tk), (⟨1, ⟨#[115, 121, 115, 116, 101, 109]⟩, 0, false, false, false⟩ : Tk), (⟨16, ⟨#[]⟩, 0, false, false, false⟩ : Tk), (⟨13, ⟨#[]⟩, 0, false, false, false⟩ : Tk), (⟨1, ⟨#[102, 105, 120, 101, 100]⟩, 0, false, false, false⟩ : Tk), (⟨17, ⟨#[]⟩, 0, false, false, false⟩ : Tk)]
  | 2 => [(⟨13, ⟨#[]⟩, 0, false, false, false⟩ : Tk), (⟨1, ⟨#[115, 121, 115, 116, 101, 109]⟩, 0, false, false, false⟩ : Tk), (⟨16, ⟨#[]⟩, 0, false, false, false⟩ : Tk), (⟨13, ⟨#[]⟩, 0, false, false, false⟩ : Tk), (⟨1, ⟨#[115, 121, 109, 98, 111, 108, 105, 99]⟩, 0, false, false, false⟩ : Tk), (⟨17, ⟨#[]⟩, 0, false, false, false⟩ : Tk)]
  | 3 => [(⟨13, ⟨#[]⟩, 0, false, false, false⟩ : Tk), (⟨1, ⟨#[115, 121, 115, 116, 101, 109]⟩, 0, false, false, false⟩ : Tk), (⟨16, ⟨#[]⟩, 0, false, false, false⟩ : Tk), (⟨13, ⟨#[]⟩, 0, false, false, false⟩ : Tk), (⟨1, ⟨#[97, 108, 112, 104, 97, 98, 101, 116, 105, 99]⟩, 0, false, false, false⟩ : Tk), (⟨17, ⟨#[]⟩, 0, false, false, false⟩ : Tk)]
  | 4 => [(⟨13, ⟨#[]⟩, 0, false, false, false⟩ : Tk), (⟨1, ⟨#[115, 121, 115, 116, 101, 109]⟩, 0, false, false, false⟩ : Tk), (⟨16, ⟨#[]⟩, 0, false, false, false⟩ : Tk), (⟨13, ⟨#[]⟩, 0, false, false, false⟩ : Tk), (⟨1, ⟨#[110, 117, 109, 101, 114, 105, 99]⟩, 0, false, false, false⟩ : Tk), (⟨17, ⟨#[]⟩, 0, false, false, false⟩ : Tk)]
  | 5 => [(⟨13, ⟨#[]⟩, 0, false, false, false⟩ : Tk), (⟨1, ⟨#[115, 121, 115, 116, 101, 109]⟩, 0, false, false, false⟩ : Tk), (⟨16, ⟨#[]⟩, 0, false, false, false⟩ : Tk), (⟨13, ⟨#[]⟩, 0, false, false, false⟩ : Tk), (⟨1, ⟨#[97, 100, 100, 105, 116, 105, 118, 101]⟩, 0, false, false, false⟩ : Tk), (⟨17, ⟨#[]⟩, 0, false, false, false⟩ : Tk)]
  | 6 => [(⟨13, ⟨#[]⟩, 0, false, false, false⟩ : Tk), (⟨1, ⟨#[115, 121, 115, 116, 101, 109]⟩, 0, false, false, false⟩ : Tk), (⟨16, ⟨#[]⟩, 0, false, false, false⟩ : Tk), (⟨13, ⟨#[]⟩, 0, false, false, false⟩ : Tk), (⟨1, ⟨#[101, 120, 116, 101, 110, 100, 115]⟩, 0, false, false, false⟩ : Tk), (⟨13, ⟨#[]⟩, 0, false, false, false⟩ : Tk), (⟨1, ⟨#[100, 105, 115, 99]⟩, 0, false, false, false⟩ : Tk), (⟨17, ⟨#[]⟩, 0, false, false, false⟩ : Tk)]
  | _ => []
def shD : Nat → List Dc
  | 0 => [⟨⟨#[115, 121, 115, 116, 101, 109]⟩, [lf ⟨1, ⟨#[99, 121, 99, 108, 105, 99]⟩, 0, false, false, false⟩], false⟩]
  | 1 => [⟨⟨#[115, 121, 115, 116, 101, 109]⟩, [lf ⟨1, ⟨#[102, 105, 120, 101, 100]⟩, 0, false, false, false⟩], false⟩]
  | 2 => [⟨⟨#[115, 121, 115, 116, 101, 109]⟩, [lf ⟨1, ⟨#[115, 121, 109, 98, 111, 108, 105, 99]⟩, 0, false, false, false⟩], false⟩]
  | 3 => [⟨⟨#[115, 121, 115, 116, 101, 109]⟩, [lf ⟨1, ⟨#[97, 108, 112, 104, 97, 98, 101, 116, 105, 99]⟩, 0, false, false, false⟩], false⟩]
  | 4 => [⟨⟨#[115, 121, 115, 116, 101, 109]⟩, [lf ⟨1, ⟨#[110, 117, 109, 101, 114, 105, 99]⟩, 0, false, false, false⟩], false⟩]
  | 5 => [⟨⟨#[115, 121, 115, 116, 101, 109]⟩, [lf ⟨1, ⟨#[97, 100, 100, 105, 116, 105, 118, 101]⟩, 0, false, false, false⟩], false⟩]
  | 6 => [⟨⟨#[115, 121, 115, 116, 101, 109]⟩, [lf ⟨1, ⟨#[101, 120, 116, 101, 110, 100, 115]⟩, 0, false, false, false⟩, lf ⟨13, ⟨#[]⟩, 0, false, false, false⟩, lf ⟨1, ⟨#[100, 105, 115, 99]⟩, 0, false, false, false⟩], false⟩]
  | _ => []
theorem sh_toks : ∀ i, i < 7 → ∀ rest : List Int, toksL ((shL i).map bI ++ rest) = (hdT1 ++ shK i) ++ toksL rest
  | 0, _, rest => toks_lit 80 (by kernel_rfl) (by decide)
  | 1, _, rest => toks_lit 80 (by kernel_rfl) (by decide)
  | 2, _, rest => toks_lit 80 (by kernel_rfl) (by decide)
  | 3, _, rest => toks_lit 80 (by kernel_rfl) (by decide)
  | 4, _, rest => toks_lit 80 (by kernel_rfl) (by decide)
  | 5, _, rest => toks_lit 80 (by kernel_rfl) (by decide)
  | 6, _, rest => toks_lit 80 (by kernel_rfl) (by decide)
  | k + 7, h, _ => absurd h (by omega)
theorem sh_dec : ∀ i, i < 7 → ∀ r : List Nd, decLs ((shK i).map lf ++ r) = shD i ++ decLs r
  | 0, _, r => (decLs_skip (lf ⟨13, ⟨#[]⟩, 0, false, false, false⟩) ([lf ⟨1, ⟨#[115, 121, 115, 116, 101, 109]⟩, 0, false, false, false⟩, lf ⟨16, ⟨#[]⟩, 0, false, false, false⟩, lf ⟨13, ⟨#[]⟩, 0, false, false, false⟩, lf ⟨1, ⟨#[99, 121, 99, 108, 105, 99]⟩, 0, false, false, false⟩, lf ⟨17, ⟨#[]⟩, 0, false, false, false⟩] ++ r) (by kernel_rfl)).trans ((decLs_seg (lf ⟨1, ⟨#[115, 121, 115, 116, 101, 109]⟩, 0, false, false, false⟩) [lf ⟨16, ⟨#[]⟩, 0, false, false, false⟩, lf ⟨13, ⟨#[]⟩, 0, false, false, false⟩, lf ⟨1, ⟨#[99, 121, 99, 108, 105, 99]⟩, 0, false, false, false⟩] r (lf ⟨17, ⟨#[]⟩, 0, false, false, false⟩) rfl (by decide) rfl rfl).trans (congrArg (· ++ decLs r) (by kernel_rfl)))
  | 1, _, r => (decLs_skip (lf ⟨13, ⟨#[]⟩, 0, false, false, false⟩) ([lf ⟨1, ⟨#[115, 121, 115, 116, 101, 109]⟩, 0, false, false, false⟩, lf ⟨16, ⟨#[]⟩, 0, false, false, false⟩, lf ⟨13, ⟨#[]⟩, 0, false, false, false⟩, lf ⟨1, ⟨#[102, 105, 120, 101, 100]⟩, 0, false, false, false⟩, lf ⟨17, ⟨#[]⟩, 0, false, false, false⟩] ++ r) (by kernel_rfl)).trans ((decLs_seg (lf ⟨1, ⟨#[115, 121, 115, 116, 101, 109]⟩, 0, false, false, false⟩) [lf ⟨16, ⟨#[]⟩, 0, false, false, false⟩, lf ⟨13, ⟨#[]⟩, 0, false, false, false⟩, lf ⟨1, ⟨#[102, 105, 120, 101, 100]⟩, 0, false, false, false⟩] r (lf ⟨17, ⟨#[]⟩, 0, false, false, false⟩) rfl (by decide) rfl rfl).trans (congrArg (· ++ decLs r) (by kernel_rfl)))
  | 2, _, r => (decLs_skip (lf ⟨13, ⟨#[]⟩, 0, false, false, false⟩) ([lf ⟨1, ⟨#[115, 121, 115, 116, 101, 109]⟩, 0, false, false, false⟩, lf ⟨16, ⟨#[]⟩, 0, false, false, false⟩, lf ⟨13, ⟨#[]⟩, 0, false, false, false⟩, lf ⟨1, ⟨#[115, 121, 109, 98, 111, 108, 105, 99]⟩, 0, false, false, false⟩, lf ⟨17, ⟨#[]⟩, 0, false, false, false⟩] ++ r) (by kernel_rfl)).trans ((decLs_seg (lf ⟨1, ⟨#[115, 121, 115, 116, 101, 109]⟩, 0, false, false, false⟩) [lf ⟨16, ⟨#[]⟩, 0, false, false, false⟩, lf ⟨13, ⟨#[]⟩, 0, false, false, false⟩, lf ⟨1, ⟨#[115, 121, 109, 98, 111, 108, 105, 99]⟩, 0, false, false, false⟩] r (lf ⟨17, ⟨#[]⟩, 0, false, false, false⟩) rfl (by decide) rfl rfl).trans (congrArg (· ++ decLs r) (by kernel_rfl)))
  | 3, _, r => (decLs_skip (lf ⟨13, ⟨#[]⟩, 0, false, false, false⟩) ([lf ⟨1, ⟨#[115, 121, 115, 116, 101, 109]⟩, 0, false, false, false⟩, lf ⟨16, ⟨#[]⟩, 0, false, false, false⟩, lf ⟨13, ⟨#[]⟩, 0, false, false, false⟩, lf ⟨1, ⟨#[97, 108, 112, 104, 97, 98, 101, 116, 105, 99]⟩, 0, false, false, false⟩, lf ⟨17, ⟨#[]⟩, 0, false, false, false⟩] ++ r) (by kernel_rfl)).trans ((decLs_seg (lf ⟨1, ⟨#[115, 121, 115, 116, 101, 109]⟩, 0, false, false, false⟩) [lf ⟨16, ⟨#[]⟩, 0, false, false, false⟩, lf ⟨13, ⟨#[]⟩, 0, false, false, false⟩, lf ⟨1, ⟨#[97, 108, 112, 104, 97, 98, 101, 116, 105, 99]⟩, 0, false, false, false⟩] r (lf ⟨17, ⟨#[]⟩, 0, false, false, false⟩) rfl (by decide) rfl rfl).trans (congrArg (· ++ decLs r) (by kernel_rfl)))
  | 4, _, r => (decLs_skip (lf ⟨13, ⟨#[]⟩, 0, false, false, false⟩) ([lf ⟨1, ⟨#[115, 121, 115, 116, 101, 109]⟩, 0, false, false, false⟩, lf ⟨16, ⟨#[]⟩, 0, false, false, false⟩, lf ⟨13, ⟨#[]⟩, 0, false, false, false⟩, lf ⟨1, ⟨#[110, 117, 109, 101, 114, 105, 99]⟩, 0, false, false, false⟩, lf ⟨17, ⟨#[]⟩, 0, false, false, false⟩] ++ r) (by kernel_rfl)).trans ((decLs_seg (lf ⟨1, ⟨#[115, 121, 115, 116, 101, 109]⟩, 0, false, false, false⟩) [lf ⟨16, ⟨#[]⟩, 0, false, false, false⟩, lf ⟨13, ⟨#[]⟩, 0, false, false, false⟩, lf ⟨1, ⟨#[110, 117, 109, 101, 114, 105, 99]⟩, 0, false, false, false⟩] r (lf ⟨17, ⟨#[]⟩, 0, false, false, false⟩) rfl (by decide) rfl rfl).trans (congrArg (· ++ decLs r) (by kernel_rfl)))
  | 5, _, r => (decLs_skip (lf ⟨13, ⟨#[]⟩, 0, false, false, false⟩) ([lf ⟨1, ⟨#[115, 121, 115, 116, 101, 109]⟩, 0, false, false, false⟩, lf ⟨16, ⟨#[]⟩, 0, false, false, false⟩, lf ⟨13, ⟨#[]⟩, 0, false, false, false⟩, lf ⟨1, ⟨#[97, 100, 100, 105, 116, 105, 118, 101]⟩, 0, false, false, false⟩, lf ⟨17, ⟨#[]⟩, 0, false, false, false⟩] ++ r) (by kernel_rfl)).trans ((decLs_seg (lf ⟨1, ⟨#[115, 121, 115, 116, 101, 109]⟩, 0, false, false, false⟩) [lf ⟨16, ⟨#[]⟩, 0, false, false, false⟩, lf ⟨13, ⟨#[]⟩, 0, false, false, false⟩, lf ⟨1, ⟨#[97, 100, 100, 105, 116, 105, 118, 101]⟩, 0, false, false, false⟩] r (lf ⟨17, ⟨#[]⟩, 0, false, false, false⟩) rfl (by decide) rfl rfl).trans (congrArg (· ++ decLs r) (by kernel_rfl)))
  | 6, _, r => (decLs_skip (lf ⟨13, ⟨#[]⟩, 0, false, false, false⟩) ([lf ⟨1, ⟨#[115, 121, 115, 116, 101, 109]⟩, 0, false, false, false⟩, lf ⟨16, ⟨#[]⟩, 0, false, false, false⟩, lf ⟨13, ⟨#[]⟩, 0, false, false, false⟩, lf ⟨1, ⟨#[101, 120, 116, 101, 110, 100, 115]⟩, 0, false, false, false⟩, lf ⟨13, ⟨#[]⟩, 0, false, false, false⟩, lf ⟨1, ⟨#[100, 105, 115, 99]⟩, 0, false, false, false⟩, lf ⟨17, ⟨#[]⟩, 0, false, false, false⟩] ++ r) (by kernel_rfl)).trans ((decLs_seg (lf ⟨1, ⟨#[115, 121, 115, 116, 101, 109]⟩, 0, false, false, false⟩) [lf ⟨16, ⟨#[]⟩, 0, false, false, false⟩, lf ⟨13, ⟨#[]⟩, 0, false, false, false⟩, lf ⟨1, ⟨#[101, 120, 116, 101, 110, 100, 115]⟩, 0, false, false, false⟩, lf ⟨13, ⟨#[]⟩, 0, false, false, false⟩, lf ⟨1, ⟨#[100, 105, 115, 99]⟩, 0, false, false, false⟩] r (lf ⟨17, ⟨#[]⟩, 0, false, false, false⟩) rfl (by decide) rfl rfl).trans (congrArg (· ++ decLs r) (by kernel_rfl)))
  | k + 7, h, _ => absurd h (by omega)
/- symbols -/
def syB : Nat → List UInt8
  | 0 => []
  | n + 1 => syB n ++ [32, 115]
def syBK : Nat → List Tk
  | 0 => []
  | n + 1 => syBK n ++ [wT, (⟨1, ⟨#[115]⟩, 0, false, false, false⟩ : Tk)]
def syL (n : Nat) : List UInt8 := if n = 0 then [] else ([115, 121, 109, 98, 111, 108, 115, 58] : List UInt8) ++ (syB n ++ [59])
def syK (n : Nat) : List Tk := if n = 0 then [] else (⟨1, ⟨#[115, 121, 109, 98, 111, 108, 115]⟩, 0, false, false, false⟩ : Tk) :: (⟨16, ⟨#[]⟩, 0, false, false, false⟩ : Tk) :: (syBK n ++ [smT])
theorem syB_toks : ∀ (n : Nat) (c : Int) (R : List Int) (_ : c = 32 ∨ c = 59), toksL ((syB n).map bI ++ c :: R) = syBK n ++ toksL (c :: R)
  | 0, _, _, _ => rfl
  | n + 1, c, R, hc => by
    have e : (syB (n + 1)).map bI ++ c :: R = (syB n).map bI ++ 32 :: (115 :: c :: R) := by
      rw [syB, List.map_append, List.append_assoc]; rfl
    have h1 : nameF (gt (c :: R) 0) = false := by rw [show gt (c :: R) 0 = c from rfl]; rcases hc with rfl | rfl <;> decide
    have h2 : gt (c :: R) 0 ≠ 92 := by rw [show gt (c :: R) 0 = c from rfl]; rcases hc with rfl | rfl <;> decide
    have h3 : gt (c :: R) 0 ≠ 40 := by rw [show gt (c :: R) 0 = c from rfl]; rcases hc with rfl | rfl <;> decide
    have hw := toksL_white 32 [] (115 :: c :: R) rfl (by rw [show gt (115 :: c :: R) 0 = 115 from rfl]; decide)
    have hs := toksL_word 115 [] (c :: R) (by decide) rfl h1 h2 h3
    rw [e, syB_toks n 32 _ (.inl rfl), show (32 :: (115 :: c :: R) : List Int) = 32 :: [] ++ (115 :: c :: R) from rfl, hw, show (115 :: c :: R : List Int) = 115 :: [] ++ (c :: R) from rfl, hs, syBK, List.append_assoc]
    exact congrArg (syBK n ++ ·) (by kernel_rfl)
theorem semi_toks (r : List Int) : toksL (59 :: r) = smT :: toksL r := by
  have h : toksL (([59] : List Int) ++ r) = [smT] ++ toksL r := toks_lit 10 (by kernel_rfl) (by decide)
  exact h
theorem sy_toks (n : Nat) (rest : List Int) : toksL ((syL n).map bI ++ rest) = syK n ++ toksL rest := by
  rw [syL, syK]
  split
  · rfl
  · have h : toksL (((([115, 121, 109, 98, 111, 108, 115, 58] : List UInt8) : List UInt8).map bI) ++ ((syB n).map bI ++ 59 :: rest)) = [(⟨1, ⟨#[115, 121, 109, 98, 111, 108, 115]⟩, 0, false, false, false⟩ : Tk), (⟨16, ⟨#[]⟩, 0, false, false, false⟩ : Tk)] ++ toksL ((syB n).map bI ++ 59 :: rest) := toks_lit 40 (by kernel_rfl) (by decide)
    have e : (([115, 121, 109, 98, 111, 108, 115, 58] : List UInt8) ++ (syB n ++ [59])).map bI ++ rest = ((([115, 121, 109, 98, 111, 108, 115, 58] : List UInt8) : List UInt8).map bI) ++ ((syB n).map bI ++ 59 :: rest) := by
      rw [List.map_append, List.map_append, List.append_assoc, List.append_assoc]; rfl
    rw [e, h, syB_toks n 59 rest (.inr rfl), semi_toks]
    simp only [List.cons_append, List.nil_append, List.append_assoc]
/- additive symbols -/
def nmB (j : Nat) : Bd := .num (100 - j)
def pcL (j : Nat) : List UInt8 := 32 :: ((nmB j).L ++ [32, 116])
def pcK (j : Nat) : List Tk := [wT, (nmB j).T, wT, (⟨1, ⟨#[116]⟩, 0, false, false, false⟩ : Tk)]
def adB : Nat → List UInt8
  | 0 => []
  | k + 1 => adB k ++ (if k = 0 then [] else [44]) ++ pcL k
def adBK : Nat → List Tk
  | 0 => []
  | k + 1 => adBK k ++ (if k = 0 then [] else [cmT]) ++ pcK k
def adL (k : Nat) : List UInt8 := if k = 0 then [] else ([97, 100, 100, 105, 116, 105, 118, 101, 45, 115, 121, 109, 98, 111, 108, 115, 58] : List UInt8) ++ (adB k ++ [59])
def adK (k : Nat) : List Tk := if k = 0 then [] else (⟨1, ⟨#[97, 100, 100, 105, 116, 105, 118, 101, 45, 115, 121, 109, 98, 111, 108, 115]⟩, 0, false, false, false⟩ : Tk) :: (⟨16, ⟨#[]⟩, 0, false, false, false⟩ : Tk) :: (adBK k ++ [smT])
theorem nm_ok {j : Nat} (h : j < 70) : (nmB j).ok := by
  show -2147483648 ≤ (100 - (j : Int)) ∧ (100 - (j : Int)) ≤ 2147483647
  omega
theorem pc_toks {j : Nat} (h : j < 70) (c : Int) (R : List Int) (hc : c = 44 ∨ c = 59) : toksL ((pcL j).map bI ++ c :: R) = pcK j ++ toksL (c :: R) := by
  have e : (pcL j).map bI ++ c :: R = 32 :: [] ++ ((nmB j).L.map bI ++ 32 :: (116 :: c :: R)) := by
    rw [pcL, List.map_cons, List.map_append, List.cons_append, List.append_assoc]; rfl
  have h1 : nameF (gt (c :: R) 0) = false := by rw [show gt (c :: R) 0 = c from rfl]; rcases hc with rfl | rfl <;> decide
  have h2 : gt (c :: R) 0 ≠ 92 := by rw [show gt (c :: R) 0 = c from rfl]; rcases hc with rfl | rfl <;> decide
  have h3 : gt (c :: R) 0 ≠ 40 := by rw [show gt (c :: R) 0 = c from rfl]; rcases hc with rfl | rfl <;> decide
  have hw := toksL_white 32 [] (116 :: c :: R) rfl (by rw [show gt (116 :: c :: R) 0 = 116 from rfl]; decide)
  have hs := toksL_word 116 [] (c :: R) (by decide) rfl h1 h2 h3
  rw [e, toksL_white 32 [] ((nmB j).L.map bI ++ 32 :: (116 :: c :: R)) rfl (bd_white _ _), bd_toks (nmB j) (nm_ok h) 32 (116 :: c :: R) (.inl rfl), show (32 :: (116 :: c :: R) : List Int) = 32 :: [] ++ (116 :: c :: R) from rfl, hw, show (116 :: c :: R : List Int) = 116 :: [] ++ (c :: R) from rfl, hs]
  rfl
theorem adB_toks : ∀ (k : Nat) (_ : k ≤ 70) (c : Int) (R : List Int) (_ : c = 44 ∨ c = 59), toksL ((adB k).map bI ++ c :: R) = adBK k ++ toksL (c :: R)
  | 0, _, _, _, _ => rfl
  | 1, _, c, R, hc => pc_toks (show 0 < 70 by decide) c R hc
  | k + 2, h, c, R, hc => by
    have e : (adB (k + 2)).map bI ++ c :: R = (adB (k + 1)).map bI ++ 44 :: ((pcL (k + 1)).map bI ++ c :: R) := by
      rw [show adB (k + 2) = adB (k + 1) ++ (if k + 1 = 0 then [] else [44]) ++ pcL (k + 1) from rfl, if_neg (show ¬ k + 1 = 0 by omega), List.map_append, List.map_append, List.append_assoc, List.append_assoc]; rfl
    have e2 : adBK (k + 2) = adBK (k + 1) ++ [cmT] ++ pcK (k + 1) := by
      rw [show adBK (k + 2) = adBK (k + 1) ++ (if k + 1 = 0 then [] else [cmT]) ++ pcK (k + 1) from rfl, if_neg (show ¬ k + 1 = 0 by omega)]
    rw [e, adB_toks (k + 1) (by omega) 44 _ (.inl rfl), comma_toks, pc_toks (show k + 1 < 70 by omega) c R hc, e2, List.append_assoc, List.append_assoc]
    rfl
theorem ad_toks (k : Nat) (hk : k ≤ 70) (rest : List Int) : toksL ((adL k).map bI ++ rest) = adK k ++ toksL rest := by
  rw [adL, adK]
  split
  · rfl
  · have h : toksL (((([97, 100, 100, 105, 116, 105, 118, 101, 45, 115, 121, 109, 98, 111, 108, 115, 58] : List UInt8) : List UInt8).map bI) ++ ((adB k).map bI ++ 59 :: rest)) = [(⟨1, ⟨#[97, 100, 100, 105, 116, 105, 118, 101, 45, 115, 121, 109, 98, 111, 108, 115]⟩, 0, false, false, false⟩ : Tk), (⟨16, ⟨#[]⟩, 0, false, false, false⟩ : Tk)] ++ toksL ((adB k).map bI ++ 59 :: rest) := toks_lit 40 (by kernel_rfl) (by decide)
    have e : (([97, 100, 100, 105, 116, 105, 118, 101, 45, 115, 121, 109, 98, 111, 108, 115, 58] : List UInt8) ++ (adB k ++ [59])).map bI ++ rest = ((([97, 100, 100, 105, 116, 105, 118, 101, 45, 115, 121, 109, 98, 111, 108, 115, 58] : List UInt8) : List UInt8).map bI) ++ ((adB k).map bI ++ 59 :: rest) := by
      rw [List.map_append, List.map_append, List.append_assoc, List.append_assoc]; rfl
    rw [e, h, adB_toks k hk 59 rest (.inr rfl), semi_toks]
    simp only [List.cons_append, List.nil_append, List.append_assoc]
/- the whole text -/
def syX (i n a : Nat) : List UInt8 := shL i ++ (syL n ++ (adL a ++ [125]))
def syKs (i n a : Nat) : List Tk := shK i ++ (syK n ++ adK a)
theorem sh_pl : ∀ i, i < 7 → (shL i).all plB = true := of_range (g := fun _ => true) (by kernel_rfl)
theorem sy_pl : ∀ n, n < 71 → (syL n).all plB = true := of_range (g := fun _ => true) (by kernel_rfl)
theorem ad_pl : ∀ n, n < 71 → (adL n).all plB = true := of_range (g := fun _ => true) (by kernel_rfl)
theorem sh_good : ∀ i, i < 7 → (shK i).all goodT = true := of_range (g := fun _ => true) (by kernel_rfl)
theorem sy_good : ∀ n, n < 71 → (syK n).all goodT = true := of_range (g := fun _ => true) (by kernel_rfl)
theorem ad_good : ∀ n, n < 71 → (adK n).all goodT = true := of_range (g := fun _ => true) (by kernel_rfl)
theorem sh_len : ∀ i, i < 7 → (shL i).length ≤ 50 := fun i h => of_decide_eq_true (of_range (f := fun i => decide ((shL i).length ≤ 50)) (g := fun _ => true) (by kernel_rfl) i h)
theorem sy_len : ∀ n, n < 71 → (syL n).length ≤ 300 := fun i h => of_decide_eq_true (of_range (f := fun i => decide ((syL i).length ≤ 300)) (g := fun _ => true) (by kernel_rfl) i h)
theorem ad_len : ∀ n, n < 71 → (adL n).length ≤ 1000 := fun i h => of_decide_eq_true (of_range (f := fun i => decide ((adL i).length ≤ 1000)) (g := fun _ => true) (by kernel_rfl) i h)
theorem sx_toks {i n a : Nat} (hi : i < 7) (hn : n < 71) (ha : a < 71) : toks ⟨(syX i n a).toArray⟩ = hdT1 ++ syKs i n a ++ [clT] := by
  have hp : (syX i n a).all plB = true := by
    rw [syX, List.all_append, List.all_append, List.all_append, sh_pl i hi, sy_pl n hn, ad_pl a ha]
    kernel_rfl
  have h1 : toks ⟨(syX i n a).toArray⟩ = toksF (readL ⟨(syX i n a).toArray⟩) := rfl
  have e1 : (syX i n a).map bI = (shL i).map bI ++ ((syL n).map bI ++ ((adL a).map bI ++ [125])) := by
    rw [syX, List.map_append, List.map_append, List.map_append]; rfl
  have hc : toksL [125] = [clT] := by kernel_rfl
  rw [h1, ← toks_L, read_pl _ hp, e1, sh_toks i hi, sy_toks n, ad_toks a (by omega), hc, syKs]
  simp only [List.append_assoc]
theorem sx_good {i n a : Nat} (hi : i < 7) (hn : n < 71) (ha : a < 71) : (syKs i n a).all goodT = true := by
  rw [syKs, List.all_append, List.all_append, sh_good i hi, sy_good n hn, ad_good a ha]; rfl
def syN (i n a : Nat) : List Nd := [lf ⟨3, ⟨#[99, 111, 117, 110, 116, 101, 114, 45, 115, 116, 121, 108, 101]⟩, 0, false, false, false⟩, lf ⟨13, ⟨#[]⟩, 0, false, false, false⟩, lf ⟨1, ⟨#[107]⟩, 0, false, false, false⟩, lf ⟨13, ⟨#[]⟩, 0, false, false, false⟩, .mk opT ((syKs i n a).map lf)]
theorem sx_nds {i n a : Nat} (hi : i < 7) (hn : n < 71) (ha : a < 71) : ndsF ⟨(syX i n a).toArray⟩ = syN i n a := by
  have hg : (syKs i n a).all (leafB (clzF opT)) = true := List.all_eq_true.2 fun t ht => by
    have := List.all_eq_true.1 (sx_good hi hn ha) t ht
    rw [goodT, Bool.and_eq_true] at this
    exact this.1
  have h1 : ndsF ⟨(syX i n a).toArray⟩ = nodesT (toks ⟨(syX i n a).toArray⟩) := (nodes_T _).symm
  rw [h1, sx_toks hi hn ha, hdT1]
  simp only [List.cons_append, List.nil_append]
  rw [nodesT_leaf _ _ (by kernel_rfl), nodesT_leaf _ _ (by kernel_rfl), nodesT_leaf _ _ (by kernel_rfl), nodesT_leaf _ _ (by kernel_rfl)]
  have h3 := nodesT_open opT (syKs i n a) clT [] (by decide) hg (by kernel_rfl)
  rw [nodesT_nil] at h3
  exact congrArg (fun q => lf _ :: lf _ :: lf _ :: lf _ :: q) h3
/- the declarations -/
def syD (n : Nat) : List Dc := if n = 0 then [] else [⟨⟨#[115, 121, 109, 98, 111, 108, 115]⟩, ((syBK n).drop 1).map lf, false⟩]
def adD (n : Nat) : List Dc := if n = 0 then [] else [⟨⟨#[97, 100, 100, 105, 116, 105, 118, 101, 45, 115, 121, 109, 98, 111, 108, 115]⟩, ((adBK n).drop 1).map lf, false⟩]
theorem one_sy (v : List Nd) : oneQ (lf (⟨1, ⟨#[115, 121, 109, 98, 111, 108, 115]⟩, 0, false, false, false⟩ : Tk)) (lf (⟨16, ⟨#[]⟩, 0, false, false, false⟩ : Tk) :: v) = (if mayF (valF v).1 then [⟨⟨#[115, 121, 109, 98, 111, 108, 115]⟩, (valF v).1, (valF v).2⟩] else []) := by kernel_rfl
theorem one_ad (v : List Nd) : oneQ (lf (⟨1, ⟨#[97, 100, 100, 105, 116, 105, 118, 101, 45, 115, 121, 109, 98, 111, 108, 115]⟩, 0, false, false, false⟩ : Tk)) (lf (⟨16, ⟨#[]⟩, 0, false, false, false⟩ : Tk) :: v) = (if mayF (valF v).1 then [⟨⟨#[97, 100, 100, 105, 116, 105, 118, 101, 45, 115, 121, 109, 98, 111, 108, 115]⟩, (valF v).1, (valF v).2⟩] else []) := by kernel_rfl
theorem sy_ex : ∀ n, n < 71 → ((syBK n).map lf).all (fun n => !exclB n.tok) = true := of_range (g := fun _ => true) (by kernel_rfl)
theorem sy_tr : ∀ n, n < 71 → trimF ((syBK n).map lf) = ((syBK n).drop 1).map lf := of_range (by kernel_rfl)
theorem sy_my : ∀ n, n < 71 → mayF (((syBK n).drop 1).map lf) = !decide (n = 0) := of_range (by kernel_rfl)
theorem ad_ex : ∀ n, n < 71 → ((adBK n).map lf).all (fun n => !exclB n.tok) = true := of_range (g := fun _ => true) (by kernel_rfl)
theorem ad_tr : ∀ n, n < 71 → trimF ((adBK n).map lf) = ((adBK n).drop 1).map lf := of_range (by kernel_rfl)
theorem ad_my : ∀ n, n < 71 → mayF (((adBK n).drop 1).map lf) = !decide (n = 0) := of_range (by kernel_rfl)
theorem sy_one (n : Nat) (hn : n < 71) : oneQ (lf (⟨1, ⟨#[115, 121, 109, 98, 111, 108, 115]⟩, 0, false, false, false⟩ : Tk)) (lf (⟨16, ⟨#[]⟩, 0, false, false, false⟩ : Tk) :: (syBK n).map lf) = syD n := by
  have hno : ∀ m ∈ (syBK n).map lf, exclB m.tok = false := fun m hm => by simpa using List.all_eq_true.1 (sy_ex n hn) m hm
  rw [one_sy, valF_no hno, sy_tr n hn]
  show (if mayF (((syBK n).drop 1).map lf) = true then _ else _) = _
  rw [sy_my n hn, syD]
  by_cases h : n = 0
  · rw [if_pos h, decide_eq_true h]; rfl
  · rw [if_neg h, decide_eq_false h]; rfl
theorem ad_one (n : Nat) (hn : n < 71) : oneQ (lf (⟨1, ⟨#[97, 100, 100, 105, 116, 105, 118, 101, 45, 115, 121, 109, 98, 111, 108, 115]⟩, 0, false, false, false⟩ : Tk)) (lf (⟨16, ⟨#[]⟩, 0, false, false, false⟩ : Tk) :: (adBK n).map lf) = adD n := by
  have hno : ∀ m ∈ (adBK n).map lf, exclB m.tok = false := fun m hm => by simpa using List.all_eq_true.1 (ad_ex n hn) m hm
  rw [one_ad, valF_no hno, ad_tr n hn]
  show (if mayF (((adBK n).drop 1).map lf) = true then _ else _) = _
  rw [ad_my n hn, adD]
  by_cases h : n = 0
  · rw [if_pos h, decide_eq_true h]; rfl
  · rw [if_neg h, decide_eq_false h]; rfl
theorem sy_ns : ∀ n, n < 71 → (lf (⟨16, ⟨#[]⟩, 0, false, false, false⟩ : Tk) :: (syBK n).map lf).all nsB = true := of_range (g := fun _ => true) (by kernel_rfl)
theorem ad_ns : ∀ n, n < 71 → (lf (⟨16, ⟨#[]⟩, 0, false, false, false⟩ : Tk) :: (adBK n).map lf).all nsB = true := of_range (g := fun _ => true) (by kernel_rfl)
theorem sy_dec {n : Nat} (hn : n < 71) (r : List Nd) : decLs ((syK n).map lf ++ r) = syD n ++ decLs r := by
  by_cases h : n = 0
  · rw [syK, syD, if_pos h, if_pos h]; rfl
  · have h1 := decLs_seg (lf (⟨1, ⟨#[115, 121, 109, 98, 111, 108, 115]⟩, 0, false, false, false⟩ : Tk)) (lf (⟨16, ⟨#[]⟩, 0, false, false, false⟩ : Tk) :: (syBK n).map lf) r (lf smT) rfl (by decide) (sy_ns n hn) rfl
    rw [sy_one n hn] at h1
    rw [← h1, syK, if_neg h, List.map_cons, List.map_cons, List.map_append]
    simp only [List.cons_append, List.append_assoc]
    rfl
theorem ad_dec {n : Nat} (hn : n < 71) (r : List Nd) : decLs ((adK n).map lf ++ r) = adD n ++ decLs r := by
  by_cases h : n = 0
  · rw [adK, adD, if_pos h, if_pos h]; rfl
  · have h1 := decLs_seg (lf (⟨1, ⟨#[97, 100, 100, 105, 116, 105, 118, 101, 45, 115, 121, 109, 98, 111, 108, 115]⟩, 0, false, false, false⟩ : Tk)) (lf (⟨16, ⟨#[]⟩, 0, false, false, false⟩ : Tk) :: (adBK n).map lf) r (lf smT) rfl (by decide) (ad_ns n hn) rfl
    rw [ad_one n hn] at h1
    rw [← h1, adK, if_neg h, List.map_cons, List.map_cons, List.map_append]
    simp only [List.cons_append, List.append_assoc]
    rfl
theorem sx_dec {i n a : Nat} (hi : i < 7) (hn : n < 71) (ha : a < 71) : decA ((syKs i n a).map lf) 0 = shD i ++ (syD n ++ adD a) := by
  have h0 : decLs [] = [] := by kernel_rfl
  have h1 := ad_dec ha []
  rw [List.append_nil, h0, List.append_nil] at h1
  rw [decA_Ls, syKs, List.map_append, List.map_append, sh_dec i hi, sy_dec hn, h1]
def rlS (i n a : Nat) : Rl := ⟨csS, [lf ⟨1, ⟨#[107]⟩, 0, false, false, false⟩], true, shD i ++ (syD n ++ adD a)⟩
theorem sx_sht {i n a : Nat} (hi : i < 7) (hn : n < 71) (ha : a < 71) : shF ⟨(syX i n a).toArray⟩ = [rlS i n a] := by
  rw [shF, sx_nds hi hn ha, syN, sht_of, sx_dec hi hn ha]
  rfl
/- what they say -/
def ssB : ByteArray := ⟨#[115]⟩
def stB : ByteArray := ⟨#[116]⟩
def wtL (a : Nat) : List Int := (List.range a).map fun (j : Nat) => (100 : Int) - (j : Int)
def syS (n : Nat) (S : Sd) : Sd := if n = 0 then S else { S with syms := List.replicate n ssB, symbolic := true }
def adS (a : Nat) (S : Sd) : Sd := if a = 0 then S else { S with sums := List.replicate a stB, wts := wtL a, additive := true }
def sysA : Nat → ByteArray
  | 0 => ⟨#[99, 121, 99, 108, 105, 99]⟩
  | 1 => ⟨#[102, 105, 120, 101, 100]⟩
  | 2 => ⟨#[115, 121, 109, 98, 111, 108, 105, 99]⟩
  | 3 => ⟨#[97, 108, 112, 104, 97, 98, 101, 116, 105, 99]⟩
  | 4 => ⟨#[110, 117, 109, 101, 114, 105, 99]⟩
  | 5 => ⟨#[97, 100, 100, 105, 116, 105, 118, 101]⟩
  | 6 => ⟨#[101, 120, 116, 101, 110, 100, 115]⟩
  | _ => ⟨#[]⟩
def shS (i : Nat) : Sd := { sd0 ⟨#[107]⟩ with system := sysA i, ext := if i = 6 then ⟨#[100, 105, 115, 99]⟩ else ⟨#[]⟩ }
theorem sh_say : ∀ i, i < 7 → sayAll (sd0 ⟨#[107]⟩) (shD i) = shS i := of_range (by kernel_rfl)
theorem sy_say (S : Sd) : ∀ n, n < 71 → sayAll S (syD n) = syS n S := of_range (by kernel_rfl)
theorem ad_say (S : Sd) : ∀ n, n < 71 → sayAll S (adD n) = adS n S := of_range (by kernel_rfl)
theorem sx_say {i n a : Nat} (hi : i < 7) (hn : n < 71) (ha : a < 71) : sayAll (sd0 ⟨#[107]⟩) (rlS i n a).decls = adS a (syS n (shS i)) := by
  rw [show (rlS i n a).decls = shD i ++ (syD n ++ adD a) from rfl, sayAll, List.foldl_append, List.foldl_append]
  have h1 := sh_say i hi
  have h2 := sy_say (shS i) n hn
  have h3 := ad_say (syS n (shS i)) a ha
  rw [sayAll] at h1 h2 h3
  rw [h1, h2, h3]
/-- Is it a style at all? -/
def gdS (i n a : Nat) : Bool :=
  if i = 3 ∨ i = 4 then decide (2 ≤ n ∧ n ≤ 64) else if i = 5 then decide (1 ≤ a ∧ a ≤ 64) else if i = 6 then decide (n = 0 ∧ a = 0) else decide (1 ≤ n ∧ n ≤ 64)
def enS (i n a : Nat) : Sd := if i = 5 then { adS a (syS n (shS 5)) with symbols := List.replicate a stB, weights := wtL a } else { adS a (syS n (shS i)) with symbols := List.replicate n ssB }
theorem may_pl (x : List ByteArray) (y : List Int) (z : Bool) (i : Nat) (hi : i < 5) : ∀ n, n < 71 → endP { syS n (shS i) with sums := x, wts := y, additive := z } = if gdS i n 0 then ({ { syS n (shS i) with sums := x, wts := y, additive := z } with symbols := List.replicate n ssB }, 0) else (zSd, 2) := by
  have h : i = 0 ∨ i = 1 ∨ i = 2 ∨ i = 3 ∨ i = 4 := by omega
  rcases h with rfl | rfl | rfl | rfl | rfl
  · exact of_range (by kernel_rfl)
  · exact of_range (by kernel_rfl)
  · exact of_range (by kernel_rfl)
  · exact of_range (by kernel_rfl)
  · exact of_range (by kernel_rfl)
theorem may_ad (x : List ByteArray) (z : Bool) : ∀ a, a < 71 → endP (adS a { shS 5 with syms := x, symbolic := z }) = if gdS 5 0 a then ({ adS a { shS 5 with syms := x, symbolic := z } with symbols := List.replicate a stB, weights := wtL a }, 0) else (zSd, 2) := of_range (by kernel_rfl)
theorem adS_at (a : Nat) (S : Sd) : ∃ x y z, adS a S = { S with sums := x, wts := y, additive := z } := by
  rw [adS]
  split
  · exact ⟨S.sums, S.wts, S.additive, rfl⟩
  · exact ⟨_, _, _, rfl⟩
theorem syS_at (a : Nat) (S : Sd) : ∃ x z, syS a S = { S with syms := x, symbolic := z } := by
  rw [syS]
  split
  · exact ⟨S.syms, S.symbolic, rfl⟩
  · exact ⟨_, _, rfl⟩
theorem sx_end {i n a : Nat} (hi : i < 7) (hn : n < 71) (ha : a < 71) : endP (adS a (syS n (shS i))) = if gdS i n a then (enS i n a, 0) else (zSd, 2) := by
  by_cases h5 : i < 5
  · obtain ⟨x, y, z, h⟩ := adS_at a (syS n (shS i))
    have hg : gdS i n a = gdS i n 0 := by unfold gdS; rw [if_neg (show ¬ i = 5 by omega), if_neg (show ¬ i = 6 by omega), if_neg (show ¬ i = 5 by omega), if_neg (show ¬ i = 6 by omega)]
    rw [enS, if_neg (show ¬ i = 5 by omega), h, hg, may_pl x y z i h5 n hn]
  by_cases h6 : i = 5
  · subst h6
    obtain ⟨x, z, h⟩ := syS_at n (shS 5)
    have hg : gdS 5 n a = gdS 5 0 a := rfl
    rw [enS, if_pos rfl, h, hg, may_ad x z a ha]
  · obtain rfl : i = 6 := by omega
    have hex : (shS 6).system = extendsS := rfl
    by_cases h0 : n = 0
    · subst h0
      by_cases h1 : a = 0
      · subst h1
        exact (by kernel_rfl : endP (adS 0 (syS 0 (shS 6))) = (if gdS 6 0 0 then (enS 6 0 0, 0) else (zSd, 2)))
      · have hs : endP (adS a (syS 0 (shS 6))) = (zSd, 2) := by
          rw [adS, if_neg h1, syS, if_pos rfl]
          exact if_pos ⟨hex, by rw [Bool.or_true]⟩
        have hg : gdS 6 0 a = false := decide_eq_false (fun h => h1 h.2)
        rw [hs, hg]; rfl
    · have hs : ∀ S : Sd, S.system = extendsS → S.symbolic = true → endP S = (zSd, 2) := fun S h2 h3 => if_pos ⟨h2, by rw [h3, Bool.true_or]⟩
      have hg : gdS 6 n a = false := decide_eq_false (fun h => h0 h.1)
      rw [hg, hs]
      · rfl
      · obtain ⟨x, y, z, h⟩ := adS_at a (syS n (shS 6))
        rw [h, syS, if_neg h0]; exact hex
      · obtain ⟨x, y, z, h⟩ := adS_at a (syS n (shS 6))
        rw [h, syS, if_neg h0]
theorem nm_sx (i n a : Nat) : nmF (rlS i n a).pre = (⟨#[107]⟩, true) := nm_at
theorem sx_def {i n a : Nat} (hi : i < 7) (hn : n < 71) (ha : a < 71) : defP (rlS i n a) = if gdS i n a then (enS i n a, 0) else (zSd, 2) := by
  have h1 : (rlS i n a).at_ = csS ∧ (rlS i n a).blk = true := ⟨rfl, rfl⟩
  have h2 : (true && !amgF fixN (lowS ⟨#[107]⟩)) = true := by kernel_rfl
  rw [defP, if_pos h1, nm_sx, if_pos h2, sx_say hi hn ha, sx_end hi hn ha]
theorem sh_dok : ∀ i, i < 7 → (shD i).all (fun d => decide (nszs d.value < 1099511627776) && d.value.all okT) = true := of_range (g := fun _ => true) (by kernel_rfl)
theorem sy_dok : ∀ i, i < 71 → (syD i).all (fun d => decide (nszs d.value < 1099511627776) && d.value.all okT) = true := of_range (g := fun _ => true) (by kernel_rfl)
theorem ad_dok : ∀ i, i < 71 → (adD i).all (fun d => decide (nszs d.value < 1099511627776) && d.value.all okT) = true := of_range (g := fun _ => true) (by kernel_rfl)
theorem dc_len (i n a : Nat) (hi : i < 7) : (rlS i n a).decls.length ≤ 1099511627776 := by
  have h1 : (shD i).length ≤ 1 := of_decide_eq_true (of_range (f := fun i => decide ((shD i).length ≤ 1)) (g := fun _ => true) (by kernel_rfl) i hi)
  have h2 : (syD n).length ≤ 1 := by rw [syD]; split; exact Nat.zero_le _; exact Nat.le_refl _
  have h3 : (adD a).length ≤ 1 := by rw [adD]; split; exact Nat.zero_le _; exact Nat.le_refl _
  rw [show (rlS i n a).decls = shD i ++ (syD n ++ adD a) from rfl, List.length_append, List.length_append]
  omega
theorem sx_okR {i n a : Nat} (hi : i < 7) (hn : n < 71) (ha : a < 71) : okR (rlS i n a) = true := by
  have h5 : (rlS i n a).decls.all (fun d => decide (nszs d.value < 1099511627776) && d.value.all okT) = true := by
    rw [show (rlS i n a).decls = shD i ++ (syD n ++ adD a) from rfl, List.all_append, List.all_append, sh_dok i hi, sy_dok n hn, ad_dok a ha]; rfl
  have hw : (wtL a).length = a := by rw [wtL, List.length_map, List.length_range]
  simp only [okR, Bool.and_eq_true, decide_eq_true_eq]
  refine ⟨⟨⟨⟨⟨⟨⟨⟨⟨?_, ?_⟩, dc_len i n a hi⟩, h5⟩, ?_⟩, ?_⟩, ?_⟩, ?_⟩, ?_⟩, ?_⟩
  · exact of_decide_eq_true (by kernel_rfl)
  · kernel_rfl
  all_goals rw [nm_sx]
  · decide
  all_goals rw [sx_say hi hn ha]
  all_goals rw [adS, syS]
  · repeat' split
    all_goals first | exact Nat.zero_le _ | (show (List.replicate n ssB).length ≤ 65536; rw [List.length_replicate]; omega)
  · repeat' split
    all_goals first | exact Nat.zero_le _ | (show (List.replicate a stB).length ≤ 65536; rw [List.length_replicate]; omega)
  · repeat' split
    all_goals first | exact Nat.zero_le _ | (show (wtL a).length ≤ 65536; omega)
  · repeat' split
    all_goals exact Nat.zero_le _
  · repeat' split
    all_goals exact Nat.zero_le _
theorem sx_okSh {i n a : Nat} (hi : i < 7) (hn : n < 71) (ha : a < 71) : okSh ⟨(syX i n a).toArray⟩ = true := by
  have hlf : ∀ t, goodT t = true → okT (lf t) = true := fun t ht => by rw [goodT, Bool.and_eq_true] at ht; exact ht.2
  have h5 : ((syKs i n a).map lf).all okT = true := by
    rw [List.all_map]
    exact List.all_eq_true.2 fun t ht => hlf t (List.all_eq_true.1 (sx_good hi hn ha) t ht)
  have h6 : ((syN i n a).all fun n => okT n && n.kids.all okT) = true := by
    have : ((syN i n a).all fun n => okT n && n.kids.all okT) = (true && ((syKs i n a).map lf).all okT && true) := by kernel_rfl
    rw [this, h5]
    rfl
  have h7 : (⟨(syX i n a).toArray⟩ : ByteArray).size ≤ 65536 := by
    have h1 := sh_len i hi
    have h2 := sy_len n hn
    have h3 := ad_len a ha
    rw [sz_list, syX]
    simp only [List.length_append, List.length_singleton]
    omega
  rw [okSh, sx_nds hi hn ha, h6, sx_sht hi hn ha, decide_eq_true h7]
  rfl
theorem sx_at {i n a : Nat} (hi : i < 7) (hn : n < 71) (ha : a < 71) : okSh ⟨(syX i n a).toArray⟩ = true ∧ (shF ⟨(syX i n a).toArray⟩).all okR = true ∧ one10F ⟨(syX i n a).toArray⟩ = if gdS i n a then (enS i n a, 0) else (zSd, 2) := by
  refine ⟨sx_okSh hi hn ha, ?_, ?_⟩
  · rw [sx_sht hi hn ha, List.all_cons, sx_okR hi hn ha]; rfl
  · rw [one10F, sx_sht hi hn ha]
    exact sx_def hi hn ha
end Go.Proofs.YtihakfihojickaaDoor
