/- RulesEach: what the text says (plain). -/
import Derived.Test.YtiolnmfaeenlmaaGreatDoorRy
import Derived.Test.YtiolnmfaeenlmaaGreatDoordc
import Derived.Test.YtiolnmfaeenlmaaGreatDoorRo
namespace Go.Proofs.YtiolnmfaeenlmaaGreatDoor
open Go Go.RowKit
set_option maxRecDepth 20000

def dgs (i : Nat) : List UInt8 := if i < 10 then [UInt8.ofNat (48 + i)] else [UInt8.ofNat (48 + i / 10), UInt8.ofNat (48 + i % 10)]
theorem dec30 : ∀ i, i < 30 → decN i = ⟨(dgs i).toArray⟩
  | 0, _ => by kernel_rfl
  | 1, _ => by kernel_rfl
  | 2, _ => by kernel_rfl
  | 3, _ => by kernel_rfl
  | 4, _ => by kernel_rfl
  | 5, _ => by kernel_rfl
  | 6, _ => by kernel_rfl
  | 7, _ => by kernel_rfl
  | 8, _ => by kernel_rfl
  | 9, _ => by kernel_rfl
  | 10, _ => by kernel_rfl
  | 11, _ => by kernel_rfl
  | 12, _ => by kernel_rfl
  | 13, _ => by kernel_rfl
  | 14, _ => by kernel_rfl
  | 15, _ => by kernel_rfl
  | 16, _ => by kernel_rfl
  | 17, _ => by kernel_rfl
  | 18, _ => by kernel_rfl
  | 19, _ => by kernel_rfl
  | 20, _ => by kernel_rfl
  | 21, _ => by kernel_rfl
  | 22, _ => by kernel_rfl
  | 23, _ => by kernel_rfl
  | 24, _ => by kernel_rfl
  | 25, _ => by kernel_rfl
  | 26, _ => by kernel_rfl
  | 27, _ => by kernel_rfl
  | 28, _ => by kernel_rfl
  | 29, _ => by kernel_rfl
  | i + 30, h => absurd h (by omega)
theorem dgs_ok : ∀ i, i < 30 → ((dgs i).map bI).all nameF = true ∧ (dgs i).all plB = true ∧ (dgs i).length ≤ 2 ∧ (dgs i).all (fun c => decide (c.toNat < 128)) = true
  | 0, _ => ⟨by kernel_rfl, by kernel_rfl, by decide, by kernel_rfl⟩
  | 1, _ => ⟨by kernel_rfl, by kernel_rfl, by decide, by kernel_rfl⟩
  | 2, _ => ⟨by kernel_rfl, by kernel_rfl, by decide, by kernel_rfl⟩
  | 3, _ => ⟨by kernel_rfl, by kernel_rfl, by decide, by kernel_rfl⟩
  | 4, _ => ⟨by kernel_rfl, by kernel_rfl, by decide, by kernel_rfl⟩
  | 5, _ => ⟨by kernel_rfl, by kernel_rfl, by decide, by kernel_rfl⟩
  | 6, _ => ⟨by kernel_rfl, by kernel_rfl, by decide, by kernel_rfl⟩
  | 7, _ => ⟨by kernel_rfl, by kernel_rfl, by decide, by kernel_rfl⟩
  | 8, _ => ⟨by kernel_rfl, by kernel_rfl, by decide, by kernel_rfl⟩
  | 9, _ => ⟨by kernel_rfl, by kernel_rfl, by decide, by kernel_rfl⟩
  | 10, _ => ⟨by kernel_rfl, by kernel_rfl, by decide, by kernel_rfl⟩
  | 11, _ => ⟨by kernel_rfl, by kernel_rfl, by decide, by kernel_rfl⟩
  | 12, _ => ⟨by kernel_rfl, by kernel_rfl, by decide, by kernel_rfl⟩
  | 13, _ => ⟨by kernel_rfl, by kernel_rfl, by decide, by kernel_rfl⟩
  | 14, _ => ⟨by kernel_rfl, by kernel_rfl, by decide, by kernel_rfl⟩
  | 15, _ => ⟨by kernel_rfl, by kernel_rfl, by decide, by kernel_rfl⟩
  | 16, _ => ⟨by kernel_rfl, by kernel_rfl, by decide, by kernel_rfl⟩
  | 17, _ => ⟨by kernel_rfl, by kernel_rfl, by decide, by kernel_rfl⟩
  | 18, _ => ⟨by kernel_rfl, by kernel_rfl, by decide, by kernel_rfl⟩
  | 19, _ => ⟨by kernel_rfl, by kernel_rfl, by decide, by kernel_rfl⟩
  | 20, _ => ⟨by kernel_rfl, by kernel_rfl, by decide, by kernel_rfl⟩
  | 21, _ => ⟨by kernel_rfl, by kernel_rfl, by decide, by kernel_rfl⟩
  | 22, _ => ⟨by kernel_rfl, by kernel_rfl, by decide, by kernel_rfl⟩
  | 23, _ => ⟨by kernel_rfl, by kernel_rfl, by decide, by kernel_rfl⟩
  | 24, _ => ⟨by kernel_rfl, by kernel_rfl, by decide, by kernel_rfl⟩
  | 25, _ => ⟨by kernel_rfl, by kernel_rfl, by decide, by kernel_rfl⟩
  | 26, _ => ⟨by kernel_rfl, by kernel_rfl, by decide, by kernel_rfl⟩
  | 27, _ => ⟨by kernel_rfl, by kernel_rfl, by decide, by kernel_rfl⟩
  | 28, _ => ⟨by kernel_rfl, by kernel_rfl, by decide, by kernel_rfl⟩
  | 29, _ => ⟨by kernel_rfl, by kernel_rfl, by decide, by kernel_rfl⟩
  | i + 30, h => absurd h (by omega)
def odL : Nat → List UInt8
  | 0 => []
  | 1 => [120, 59]
  | 2 => [38, 58, 121, 59]
  | 3 => [97, 59, 98, 58, 99, 59]
  | 4 => [58, 59]
  | 5 => [64, 113, 32, 123, 122, 58, 49, 125, 32]
  | 6 => [100, 58, 59]
  | _ => [40, 101, 58, 102, 59, 41, 59]
def idT (W : ByteArray) : Tk := ⟨1, W, 0, false, false, false⟩
def wE : Tk := ⟨13, ⟨#[]⟩, 0, false, false, false⟩
def oE : Tk := ⟨19, ⟨#[123]⟩, 0, false, false, false⟩
def cE : Tk := ⟨20, ⟨#[125]⟩, 0, false, false, false⟩
def mdT : Nat → List Tk
  | 0 => [(⟨13, ⟨#[]⟩, 0, false, false, false⟩ : Tk), (⟨19, ⟨#[123]⟩, 0, false, false, false⟩ : Tk), (⟨1, ⟨#[99, 111, 108, 111, 114]⟩, 0, false, false, false⟩ : Tk), (⟨16, ⟨#[]⟩, 0, false, false, false⟩ : Tk)]
  | 1 => [(⟨13, ⟨#[]⟩, 0, false, false, false⟩ : Tk), (⟨19, ⟨#[123]⟩, 0, false, false, false⟩ : Tk), (⟨1, ⟨#[120]⟩, 0, false, false, false⟩ : Tk), (⟨17, ⟨#[]⟩, 0, false, false, false⟩ : Tk), (⟨1, ⟨#[99, 111, 108, 111, 114]⟩, 0, false, false, false⟩ : Tk), (⟨16, ⟨#[]⟩, 0, false, false, false⟩ : Tk)]
  | 2 => [(⟨13, ⟨#[]⟩, 0, false, false, false⟩ : Tk), (⟨19, ⟨#[123]⟩, 0, false, false, false⟩ : Tk), (⟨9, ⟨#[38]⟩, 0, false, false, false⟩ : Tk), (⟨16, ⟨#[]⟩, 0, false, false, false⟩ : Tk), (⟨1, ⟨#[121]⟩, 0, false, false, false⟩ : Tk), (⟨17, ⟨#[]⟩, 0, false, false, false⟩ : Tk), (⟨1, ⟨#[99, 111, 108, 111, 114]⟩, 0, false, false, false⟩ : Tk), (⟨16, ⟨#[]⟩, 0, false, false, false⟩ : Tk)]
  | 3 => [(⟨13, ⟨#[]⟩, 0, false, false, false⟩ : Tk), (⟨19, ⟨#[123]⟩, 0, false, false, false⟩ : Tk), (⟨1, ⟨#[97]⟩, 0, false, false, false⟩ : Tk), (⟨17, ⟨#[]⟩, 0, false, false, false⟩ : Tk), (⟨1, ⟨#[98]⟩, 0, false, false, false⟩ : Tk), (⟨16, ⟨#[]⟩, 0, false, false, false⟩ : Tk), (⟨1, ⟨#[99]⟩, 0, false, false, false⟩ : Tk), (⟨17, ⟨#[]⟩, 0, false, false, false⟩ : Tk), (⟨1, ⟨#[99, 111, 108, 111, 114]⟩, 0, false, false, false⟩ : Tk), (⟨16, ⟨#[]⟩, 0, false, false, false⟩ : Tk)]
  | 4 => [(⟨13, ⟨#[]⟩, 0, false, false, false⟩ : Tk), (⟨19, ⟨#[123]⟩, 0, false, false, false⟩ : Tk), (⟨16, ⟨#[]⟩, 0, false, false, false⟩ : Tk), (⟨17, ⟨#[]⟩, 0, false, false, false⟩ : Tk), (⟨1, ⟨#[99, 111, 108, 111, 114]⟩, 0, false, false, false⟩ : Tk), (⟨16, ⟨#[]⟩, 0, false, false, false⟩ : Tk)]
  | 5 => [(⟨13, ⟨#[]⟩, 0, false, false, false⟩ : Tk), (⟨19, ⟨#[123]⟩, 0, false, false, false⟩ : Tk), (⟨3, ⟨#[113]⟩, 0, false, false, false⟩ : Tk), (⟨13, ⟨#[]⟩, 0, false, false, false⟩ : Tk), (⟨19, ⟨#[123]⟩, 0, false, false, false⟩ : Tk), (⟨1, ⟨#[122]⟩, 0, false, false, false⟩ : Tk), (⟨16, ⟨#[]⟩, 0, false, false, false⟩ : Tk), (⟨10, ⟨#[]⟩, 1, true, false, false⟩ : Tk), (⟨20, ⟨#[125]⟩, 0, false, false, false⟩ : Tk), (⟨13, ⟨#[]⟩, 0, false, false, false⟩ : Tk), (⟨1, ⟨#[99, 111, 108, 111, 114]⟩, 0, false, false, false⟩ : Tk), (⟨16, ⟨#[]⟩, 0, false, false, false⟩ : Tk)]
  | 6 => [(⟨13, ⟨#[]⟩, 0, false, false, false⟩ : Tk), (⟨19, ⟨#[123]⟩, 0, false, false, false⟩ : Tk), (⟨1, ⟨#[100]⟩, 0, false, false, false⟩ : Tk), (⟨16, ⟨#[]⟩, 0, false, false, false⟩ : Tk), (⟨17, ⟨#[]⟩, 0, false, false, false⟩ : Tk), (⟨1, ⟨#[99, 111, 108, 111, 114]⟩, 0, false, false, false⟩ : Tk), (⟨16, ⟨#[]⟩, 0, false, false, false⟩ : Tk)]
  | _ => [(⟨13, ⟨#[]⟩, 0, false, false, false⟩ : Tk), (⟨19, ⟨#[123]⟩, 0, false, false, false⟩ : Tk), (⟨19, ⟨#[40]⟩, 0, false, false, false⟩ : Tk), (⟨1, ⟨#[101]⟩, 0, false, false, false⟩ : Tk), (⟨16, ⟨#[]⟩, 0, false, false, false⟩ : Tk), (⟨1, ⟨#[102]⟩, 0, false, false, false⟩ : Tk), (⟨17, ⟨#[]⟩, 0, false, false, false⟩ : Tk), (⟨20, ⟨#[41]⟩, 0, false, false, false⟩ : Tk), (⟨17, ⟨#[]⟩, 0, false, false, false⟩ : Tk), (⟨1, ⟨#[99, 111, 108, 111, 114]⟩, 0, false, false, false⟩ : Tk), (⟨16, ⟨#[]⟩, 0, false, false, false⟩ : Tk)]
def kdE : Nat → ByteArray → List Nd
  | 0, W => [(.mk ⟨1, ⟨#[99, 111, 108, 111, 114]⟩, 0, false, false, false⟩ []), (.mk ⟨16, ⟨#[]⟩, 0, false, false, false⟩ []), .mk wE [], .mk (idT W) []]
  | 1, W => [(.mk ⟨1, ⟨#[120]⟩, 0, false, false, false⟩ []), (.mk ⟨17, ⟨#[]⟩, 0, false, false, false⟩ []), (.mk ⟨1, ⟨#[99, 111, 108, 111, 114]⟩, 0, false, false, false⟩ []), (.mk ⟨16, ⟨#[]⟩, 0, false, false, false⟩ []), .mk wE [], .mk (idT W) []]
  | 2, W => [(.mk ⟨9, ⟨#[38]⟩, 0, false, false, false⟩ []), (.mk ⟨16, ⟨#[]⟩, 0, false, false, false⟩ []), (.mk ⟨1, ⟨#[121]⟩, 0, false, false, false⟩ []), (.mk ⟨17, ⟨#[]⟩, 0, false, false, false⟩ []), (.mk ⟨1, ⟨#[99, 111, 108, 111, 114]⟩, 0, false, false, false⟩ []), (.mk ⟨16, ⟨#[]⟩, 0, false, false, false⟩ []), .mk wE [], .mk (idT W) []]
  | 3, W => [(.mk ⟨1, ⟨#[97]⟩, 0, false, false, false⟩ []), (.mk ⟨17, ⟨#[]⟩, 0, false, false, false⟩ []), (.mk ⟨1, ⟨#[98]⟩, 0, false, false, false⟩ []), (.mk ⟨16, ⟨#[]⟩, 0, false, false, false⟩ []), (.mk ⟨1, ⟨#[99]⟩, 0, false, false, false⟩ []), (.mk ⟨17, ⟨#[]⟩, 0, false, false, false⟩ []), (.mk ⟨1, ⟨#[99, 111, 108, 111, 114]⟩, 0, false, false, false⟩ []), (.mk ⟨16, ⟨#[]⟩, 0, false, false, false⟩ []), .mk wE [], .mk (idT W) []]
  | 4, W => [(.mk ⟨16, ⟨#[]⟩, 0, false, false, false⟩ []), (.mk ⟨17, ⟨#[]⟩, 0, false, false, false⟩ []), (.mk ⟨1, ⟨#[99, 111, 108, 111, 114]⟩, 0, false, false, false⟩ []), (.mk ⟨16, ⟨#[]⟩, 0, false, false, false⟩ []), .mk wE [], .mk (idT W) []]
  | 5, W => [(.mk ⟨3, ⟨#[113]⟩, 0, false, false, false⟩ []), (.mk ⟨13, ⟨#[]⟩, 0, false, false, false⟩ []), (.mk ⟨19, ⟨#[123]⟩, 0, false, false, false⟩ [(.mk ⟨1, ⟨#[122]⟩, 0, false, false, false⟩ []), (.mk ⟨16, ⟨#[]⟩, 0, false, false, false⟩ []), (.mk ⟨10, ⟨#[]⟩, 1, true, false, false⟩ [])]), (.mk ⟨13, ⟨#[]⟩, 0, false, false, false⟩ []), (.mk ⟨1, ⟨#[99, 111, 108, 111, 114]⟩, 0, false, false, false⟩ []), (.mk ⟨16, ⟨#[]⟩, 0, false, false, false⟩ []), .mk wE [], .mk (idT W) []]
  | 6, W => [(.mk ⟨1, ⟨#[100]⟩, 0, false, false, false⟩ []), (.mk ⟨16, ⟨#[]⟩, 0, false, false, false⟩ []), (.mk ⟨17, ⟨#[]⟩, 0, false, false, false⟩ []), (.mk ⟨1, ⟨#[99, 111, 108, 111, 114]⟩, 0, false, false, false⟩ []), (.mk ⟨16, ⟨#[]⟩, 0, false, false, false⟩ []), .mk wE [], .mk (idT W) []]
  | _, W => [(.mk ⟨19, ⟨#[40]⟩, 0, false, false, false⟩ [(.mk ⟨1, ⟨#[101]⟩, 0, false, false, false⟩ []), (.mk ⟨16, ⟨#[]⟩, 0, false, false, false⟩ []), (.mk ⟨1, ⟨#[102]⟩, 0, false, false, false⟩ []), (.mk ⟨17, ⟨#[]⟩, 0, false, false, false⟩ [])]), (.mk ⟨17, ⟨#[]⟩, 0, false, false, false⟩ []), (.mk ⟨1, ⟨#[99, 111, 108, 111, 114]⟩, 0, false, false, false⟩ []), (.mk ⟨16, ⟨#[]⟩, 0, false, false, false⟩ []), .mk wE [], .mk (idT W) []]
def dcE : Nat → ByteArray → List Dc
  | 0, W => [⟨⟨#[99, 111, 108, 111, 114]⟩, [.mk (idT W) []], false⟩]
  | 1, W => [⟨⟨#[99, 111, 108, 111, 114]⟩, [.mk (idT W) []], false⟩]
  | 2, W => [⟨⟨#[99, 111, 108, 111, 114]⟩, [.mk (idT W) []], false⟩]
  | 3, W => [⟨⟨#[98]⟩, [.mk ⟨1, ⟨#[99]⟩, 0, false, false, false⟩ []], false⟩, ⟨⟨#[99, 111, 108, 111, 114]⟩, [.mk (idT W) []], false⟩]
  | 4, W => [⟨⟨#[99, 111, 108, 111, 114]⟩, [.mk (idT W) []], false⟩]
  | 5, W => [⟨⟨#[99, 111, 108, 111, 114]⟩, [.mk (idT W) []], false⟩]
  | 6, W => [⟨⟨#[99, 111, 108, 111, 114]⟩, [.mk (idT W) []], false⟩]
  | _, W => [⟨⟨#[99, 111, 108, 111, 114]⟩, [.mk (idT W) []], false⟩]
def mdL (k : Nat) : List UInt8 := [32, 123] ++ odL k ++ [99, 111, 108, 111, 114, 58]
theorem md_toks : ∀ k, k < 8 → ∀ rest : List Int, toksL ((mdL k).map bI ++ rest) = mdT k ++ toksL rest
  | 0, _, rest => toks_lit 40 (by kernel_rfl) (by decide)
  | 1, _, rest => toks_lit 40 (by kernel_rfl) (by decide)
  | 2, _, rest => toks_lit 40 (by kernel_rfl) (by decide)
  | 3, _, rest => toks_lit 40 (by kernel_rfl) (by decide)
  | 4, _, rest => toks_lit 40 (by kernel_rfl) (by decide)
  | 5, _, rest => toks_lit 40 (by kernel_rfl) (by decide)
  | 6, _, rest => toks_lit 40 (by kernel_rfl) (by decide)
  | 7, _, rest => toks_lit 40 (by kernel_rfl) (by decide)
  | k + 8, h, _ => absurd h (by omega)
theorem md_ok : ∀ k, k < 8 → (mdL k).all plB = true ∧ (odL k).length ≤ 9 ∧ nameF (gt ((mdL k).map bI) 0) = false
  | 0, _ => ⟨by kernel_rfl, by decide, by decide⟩
  | 1, _ => ⟨by kernel_rfl, by decide, by decide⟩
  | 2, _ => ⟨by kernel_rfl, by decide, by decide⟩
  | 3, _ => ⟨by kernel_rfl, by decide, by decide⟩
  | 4, _ => ⟨by kernel_rfl, by decide, by decide⟩
  | 5, _ => ⟨by kernel_rfl, by decide, by decide⟩
  | 6, _ => ⟨by kernel_rfl, by decide, by decide⟩
  | 7, _ => ⟨by kernel_rfl, by decide, by decide⟩
  | k + 8, h => absurd h (by omega)
def ruT (k : Nat) (V W : ByteArray) : List Tk := idT V :: (mdT k ++ [wE, idT W, cE, wE])
def ruN (k : Nat) (V W : ByteArray) : List Nd := [.mk (idT V) [], .mk wE [], .mk oE (kdE k W), .mk wE []]
theorem ru_ndsF : ∀ k, k < 8 → ∀ (V W : ByteArray) (r : List Tk), nodesN (r.length + 40) (ruT k V W ++ r) = ruN k V W ++ nodesN (r.length + 36) r
  | 0, _, V, W, r => by kernel_rfl
  | 1, _, V, W, r => by kernel_rfl
  | 2, _, V, W, r => by kernel_rfl
  | 3, _, V, W, r => by kernel_rfl
  | 4, _, V, W, r => by kernel_rfl
  | 5, _, V, W, r => by kernel_rfl
  | 6, _, V, W, r => by kernel_rfl
  | 7, _, V, W, r => by kernel_rfl
  | k + 8, h, _, _, _ => absurd h (by omega)
theorem ru_tl : ∀ k, k < 8 → ∀ V W, (ruT k V W).length ≤ 40
  | 0, _, V, W => Nat.le_of_ble_eq_true rfl
  | 1, _, V, W => Nat.le_of_ble_eq_true rfl
  | 2, _, V, W => Nat.le_of_ble_eq_true rfl
  | 3, _, V, W => Nat.le_of_ble_eq_true rfl
  | 4, _, V, W => Nat.le_of_ble_eq_true rfl
  | 5, _, V, W => Nat.le_of_ble_eq_true rfl
  | 6, _, V, W => Nat.le_of_ble_eq_true rfl
  | 7, _, V, W => Nat.le_of_ble_eq_true rfl
  | k + 8, h, _, _ => absurd h (by omega)
theorem ru_nds (k : Nat) (hk : k < 8) (V W : ByteArray) (r : List Tk) : nodesT (ruT k V W ++ r) = ruN k V W ++ nodesT r := by
  have hl := ru_tl k hk V W
  have h1 := nodesN_fuel (ruT k V W ++ r).length (r.length + 40) (ruT k V W ++ r) (Nat.le_refl _) (by rw [List.length_append]; omega)
  have h2 := nodesN_fuel (r.length + 36) r.length r (by omega) (Nat.le_refl _)
  rw [nodesT, h1, ru_ndsF k hk, h2]
  rfl
theorem ru_dec : ∀ k, k < 8 → ∀ W, decA (kdE k W) 0 = dcE k W
  | 0, _, W => by kernel_rfl
  | 1, _, W => by kernel_rfl
  | 2, _, W => by kernel_rfl
  | 3, _, W => by kernel_rfl
  | 4, _, W => by kernel_rfl
  | 5, _, W => by kernel_rfl
  | 6, _, W => by kernel_rfl
  | 7, _, W => by kernel_rfl
  | k + 8, h, _ => absurd h (by omega)
def ruR (k : Nat) (V W : ByteArray) : Rl := ⟨⟨#[]⟩, [.mk (idT V) []], true, dcE k W⟩
theorem ru_sht0 (V : ByteArray) (K : List Nd) (r : List Nd) : shtLs ([.mk (idT V) [], .mk wE [], .mk oE K, .mk wE []] ++ r) = ⟨⟨#[]⟩, [.mk (idT V) []], true, decA K 0⟩ :: shtQ (r.length + 2) r := by kernel_rfl
theorem ru_sht (k : Nat) (hk : k < 8) (V W : ByteArray) (r : List Nd) : shtLs (ruN k V W ++ r) = ruR k V W :: shtLs r := by
  have h := shtQ_fuel (r.length + 2) r.length r (by omega) (Nat.le_refl _)
  rw [ruN, ru_sht0, ru_dec k hk, h]
  rfl
/-- A rule: its name's number, its middle, its own number. -/
abbrev Qe := Nat × Nat × Nat
def okQ (q : Qe) : Prop := q.1 < 9 ∧ q.2.1 < 8 ∧ q.2.2 < 30
def qL (q : Qe) : List UInt8 := [114] ++ dgs q.1 ++ [32, 123] ++ odL q.2.1 ++ [99, 111, 108, 111, 114, 58, 32, 99] ++ dgs q.2.2 ++ [125, 10]
def qV (q : Qe) : ByteArray := ⟨(114 :: dgs q.1).toArray⟩
def qW (q : Qe) : ByteArray := ⟨(99 :: dgs q.2.2).toArray⟩
def esL (l : List Qe) : List UInt8 := (l.map qL).flatten
def esT (l : List Qe) : List Tk := (l.map fun q => ruT q.2.1 (qV q) (qW q)).flatten
def esN (l : List Qe) : List Nd := (l.map fun q => ruN q.2.1 (qV q) (qW q)).flatten
def esR (l : List Qe) : List Rl := l.map fun q => ruR q.2.1 (qV q) (qW q)
theorem qL_eq (q : Qe) : qL q = (114 :: dgs q.1) ++ (mdL q.2.1 ++ ([32] ++ ((99 :: dgs q.2.2) ++ [125, 10]))) := by
  rw [qL, mdL]; simp
theorem es_head (l : List Qe) : whiteF (gt ((esL l).map bI) 0) = false := by
  cases l with
  | nil => decide
  | cons q r => exact show whiteF 114 = false by decide
theorem q_toks (q : Qe) (h : okQ q) (rest : List Int) (hr : whiteF (gt rest 0) = false) : toksL ((qL q).map bI ++ rest) = ruT q.2.1 (qV q) (qW q) ++ toksL rest := by
  obtain ⟨h1, h2, h3⟩ := h
  obtain ⟨a1, a2, a3, a4⟩ := dgs_ok q.1 (by omega)
  obtain ⟨b1, b2, b3, b4⟩ := dgs_ok q.2.2 h3
  obtain ⟨c1, c2, c3⟩ := md_ok q.2.1 h2
  have rV : runesBytes ((114 :: dgs q.1).map bI) = qV q := runes_ascii _ (by rw [List.all_cons, a4]; rfl)
  have rW : runesBytes ((99 :: dgs q.2.2).map bI) = qW q := runes_ascii _ (by rw [List.all_cons, b4]; rfl)
  have e : (qL q).map bI ++ rest = (114 :: (dgs q.1).map bI) ++ ((mdL q.2.1).map bI ++ (32 :: [] ++ ((99 :: (dgs q.2.2).map bI) ++ (125 :: 10 :: rest)))) := by
    rw [qL_eq]; simp only [List.map_append, List.append_assoc, List.map_cons, List.cons_append, List.map_nil, List.nil_append]; rfl
  have n2 : ∀ R : List Int, nameF (gt ((mdL q.2.1).map bI ++ R) 0) = false ∧ gt ((mdL q.2.1).map bI ++ R) 0 ≠ 92 ∧ gt ((mdL q.2.1).map bI ++ R) 0 ≠ 40 := fun R => ⟨rfl, (show (32 : Int) ≠ 92 by decide), (show (32 : Int) ≠ 40 by decide)⟩
  have hcl : toksL (125 :: (10 :: rest)) = cE :: toksL (10 :: rest) := by
    have h5 : toksL (([125] : List Int) ++ (10 :: rest)) = [cE] ++ toksL (10 :: rest) := toks_lit 20 (by kernel_rfl) (by decide)
    exact h5
  have hwn : toksL (10 :: rest) = wE :: toksL rest := toksL_white 10 [] rest rfl hr
  rw [e, toksL_word 114 ((dgs q.1).map bI) _ (by decide) a1 (n2 _).1 (n2 _).2.1 (n2 _).2.2, md_toks q.2.1 h2, toksL_white 32 [] ((99 :: (dgs q.2.2).map bI) ++ (125 :: 10 :: rest)) rfl (show whiteF 99 = false by decide), toksL_word 99 ((dgs q.2.2).map bI) (125 :: 10 :: rest) (by decide) b1 (show nameF 125 = false by decide) (show (125 : Int) ≠ 92 by decide) (show (125 : Int) ≠ 40 by decide), hcl, hwn]
  have rV2 : runesBytes (114 :: (dgs q.1).map bI) = qV q := rV
  have rW2 : runesBytes (99 :: (dgs q.2.2).map bI) = qW q := rW
  rw [rV2, rW2, ruT]
  simp only [List.append_assoc, List.cons_append, List.nil_append]
  rfl
theorem es_toks : ∀ l : List Qe, (∀ q ∈ l, okQ q) → toksL ((esL l).map bI) = esT l
  | [], _ => toksL_nil
  | q :: r, h => by
    have e1 : esL (q :: r) = qL q ++ esL r := rfl
    have e2 : esT (q :: r) = ruT q.2.1 (qV q) (qW q) ++ esT r := rfl
    rw [e1, e2, List.map_append, q_toks q (h q (by simp)) _ (es_head r), es_toks r (fun x hx => h x (by simp [hx]))]
theorem es_nds : ∀ l : List Qe, (∀ q ∈ l, okQ q) → nodesT (esT l) = esN l
  | [], _ => nodesT_nil
  | q :: r, h => by
    have e2 : esT (q :: r) = ruT q.2.1 (qV q) (qW q) ++ esT r := rfl
    have e3 : esN (q :: r) = ruN q.2.1 (qV q) (qW q) ++ esN r := rfl
    rw [e2, e3, ru_nds _ (h q (by simp)).2.1, es_nds r (fun x hx => h x (by simp [hx]))]
theorem es_sht : ∀ l : List Qe, (∀ q ∈ l, okQ q) → shtLs (esN l) = esR l
  | [], _ => rfl
  | q :: r, h => by
    have e3 : esN (q :: r) = ruN q.2.1 (qV q) (qW q) ++ esN r := rfl
    rw [e3, ru_sht _ (h q (by simp)).2.1, es_sht r (fun x hx => h x (by simp [hx]))]
    rfl
theorem q_len (q : Qe) (h : okQ q) : (qL q).length ≤ 26 := by
  obtain ⟨_, _, a3, _⟩ := dgs_ok q.1 (by have := h.1; omega)
  obtain ⟨_, _, b3, _⟩ := dgs_ok q.2.2 h.2.2
  obtain ⟨_, c2, _⟩ := md_ok q.2.1 h.2.1
  rw [qL]
  simp only [List.length_append, List.length_cons, List.length_nil]
  omega
theorem es_len : ∀ l : List Qe, (∀ q ∈ l, okQ q) → (esL l).length ≤ 26 * l.length
  | [], _ => Nat.le_refl _
  | q :: r, h => by
    have h1 := es_len r (fun x hx => h x (by simp [hx]))
    have h2 := q_len q (h q (by simp))
    rw [show esL (q :: r) = qL q ++ esL r from rfl, List.length_append, List.length_cons]
    omega
theorem es_pl : ∀ l : List Qe, (∀ q ∈ l, okQ q) → (esL l).all plB = true
  | [], _ => rfl
  | q :: r, h => by
    obtain ⟨_, a2, _⟩ := dgs_ok q.1 (by have := (h q (by simp)).1; omega)
    obtain ⟨_, b2, _⟩ := dgs_ok q.2.2 (h q (by simp)).2.2
    obtain ⟨c1, _⟩ := md_ok q.2.1 (h q (by simp)).2.1
    rw [show esL (q :: r) = qL q ++ esL r from rfl, List.all_append, es_pl r (fun x hx => h x (by simp [hx])), qL_eq]
    simp only [List.all_append, List.all_cons, List.all_nil, a2, b2, c1]
    decide
theorem kd_ok : ∀ k, k < 8 → ∀ W : ByteArray, W.size ≤ 1000 → (kdE k W).all okTx = true
  | 0, _, W, h => by
    have hw : okTx (.mk (idT W) []) = true := decide_eq_true (show W.size ≤ 1099511627776 by omega)
    simp only [kdE, List.all_cons, List.all_nil, hw]
    decide
  | 1, _, W, h => by
    have hw : okTx (.mk (idT W) []) = true := decide_eq_true (show W.size ≤ 1099511627776 by omega)
    simp only [kdE, List.all_cons, List.all_nil, hw]
    decide
  | 2, _, W, h => by
    have hw : okTx (.mk (idT W) []) = true := decide_eq_true (show W.size ≤ 1099511627776 by omega)
    simp only [kdE, List.all_cons, List.all_nil, hw]
    decide
  | 3, _, W, h => by
    have hw : okTx (.mk (idT W) []) = true := decide_eq_true (show W.size ≤ 1099511627776 by omega)
    simp only [kdE, List.all_cons, List.all_nil, hw]
    decide
  | 4, _, W, h => by
    have hw : okTx (.mk (idT W) []) = true := decide_eq_true (show W.size ≤ 1099511627776 by omega)
    simp only [kdE, List.all_cons, List.all_nil, hw]
    decide
  | 5, _, W, h => by
    have hw : okTx (.mk (idT W) []) = true := decide_eq_true (show W.size ≤ 1099511627776 by omega)
    simp only [kdE, List.all_cons, List.all_nil, hw]
    decide
  | 6, _, W, h => by
    have hw : okTx (.mk (idT W) []) = true := decide_eq_true (show W.size ≤ 1099511627776 by omega)
    simp only [kdE, List.all_cons, List.all_nil, hw]
    decide
  | 7, _, W, h => by
    have hw : okTx (.mk (idT W) []) = true := decide_eq_true (show W.size ≤ 1099511627776 by omega)
    simp only [kdE, List.all_cons, List.all_nil, hw]
    decide
  | k + 8, h, _, _ => absurd h (by omega)
theorem es_ok (l : List Qe) (h : ∀ q ∈ l, okQ q) (hl : l.length ≤ 30) : PCalls Tryz.prog 12 [.sl 1 ((esL l).map bD)] (.tup [.sl 4 ((esR l).map rlD), .val (.int .i64 0)]) := by
  have hall : allF (esL l) = esN l := by rw [allF, allA_nodes, ← nodes_T, ← toks_L, read_pl _ (es_pl l h), es_toks l h, es_nds l h]
  have hA : ∀ x ∈ esN l, okTx x = true ∧ x.kids.all okTx = true ∧ atKB x = false := by
    intro x hx
    obtain ⟨ns, hns, hx2⟩ := List.mem_flatten.1 hx
    obtain ⟨q, hq, rfl⟩ := List.mem_map.1 hns
    obtain ⟨h1, h2, h3⟩ := h q hq
    obtain ⟨_, _, a3, _⟩ := dgs_ok q.1 (by omega)
    obtain ⟨_, _, b3, _⟩ := dgs_ok q.2.2 h3
    have hV : (qV q).size ≤ 3 := by rw [qV, sz_list, List.length_cons]; omega
    have hW : (qW q).size ≤ 3 := by rw [qW, sz_list, List.length_cons]; omega
    rw [ruN] at hx2
    simp only [List.mem_cons, List.not_mem_nil, or_false] at hx2
    rcases hx2 with rfl | rfl | rfl | rfl
    · exact ⟨decide_eq_true (show (qV q).size ≤ 1099511627776 by omega), rfl, rfl⟩
    · exact ⟨by decide, rfl, rfl⟩
    · exact ⟨decide_eq_true (show (1 : Nat) ≤ 1099511627776 by decide), kd_ok _ h2 _ (by omega), rfl⟩
    · exact ⟨by decide, rfl, rfl⟩
  have hlen := es_len l h
  have hs := psheet_ok (esL l) (by omega) (fun x hx => by
      rw [read_pl _ (es_pl l h)] at hx
      obtain ⟨c, _, rfl⟩ := List.mem_map.1 hx
      exact Int.natCast_nonneg _) (by
      rw [hall]
      intro x hx ha
      rw [(hA x hx).2.2] at ha
      cases ha) (by
      rw [hall]
      exact fun x hx => of_decide_eq_true (hA x hx).1) (by
      rw [hall]
      exact fun x hx m hm => of_decide_eq_true (List.all_eq_true.1 (hA x hx).2.1 m hm))
  have he : shE (esL l) = (esR l, 0) := by
    rw [shE, shP, hall, shtA_Ls, es_sht l h, if_neg (by rw [esR, List.length_map]; omega)]
  rw [he] at hs
  exact hs
end Go.Proofs.YtiolnmfaeenlmaaGreatDoor
