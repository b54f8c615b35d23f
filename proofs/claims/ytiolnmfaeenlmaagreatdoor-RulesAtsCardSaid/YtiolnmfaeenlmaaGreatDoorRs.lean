/- RulesImportant: what the text says (plain). -/
import Derived.Test.YtiolnmfaeenlmaaGreatDoorRl
import Derived.Test.YtiolnmfaeenlmaaGreatDoorr5
namespace Go.Proofs.YtiolnmfaeenlmaaGreatDoor
open Go Go.RowKit
set_option maxRecDepth 20000

def ltB (c : UInt8) : Bool := decide (97 ≤ c.toNat) && decide (c.toNat ≤ 122)
theorem lt_facts {c : UInt8} (h : ltB c = true) : plB c = true ∧ letF (bI c) = true ∧ nameF (bI c) = true ∧ c.toNat < 128 := by
  rw [ltB, Bool.and_eq_true, decide_eq_true_eq, decide_eq_true_eq] at h
  have h1 : letF (bI c) = true := by
    rw [letF, decide_eq_true (show 97 ≤ bI c by unfold bI; omega), decide_eq_true (show bI c ≤ 122 by unfold bI; omega)]; rfl
  refine ⟨?_, h1, let_name h1, by omega⟩
  simp only [plB, Bool.and_eq_true, decide_eq_true_eq, Bool.not_eq_true', decide_eq_false_iff_not]
  omega
def wdB (w : List UInt8) : Bool := !w.isEmpty && w.all ltB
def spL (b : Nat) : List UInt8 := List.replicate b 32
def imL : List UInt8 := [73, 109, 80, 111, 114, 116, 97, 110, 116]
def rpL (b : Nat) : Nat → List UInt8
  | 0 => []
  | t + 1 => rpL b t ++ ([33] ++ spL b ++ imL ++ spL b)
def tlL (b t : Nat) : List UInt8 := spL b ++ rpL b t ++ [125]
def hdI : List UInt8 := [97, 32, 123, 32, 99, 111, 108, 111, 114, 58]
def hT1 : Tk := ⟨1, ⟨#[97]⟩, 0, false, false, false⟩
def hTw : Tk := ⟨13, ⟨#[]⟩, 0, false, false, false⟩
def hTo : Tk := ⟨19, ⟨#[123]⟩, 0, false, false, false⟩
def hTc : Tk := ⟨20, ⟨#[125]⟩, 0, false, false, false⟩
def hKs : List Tk := [(⟨13, ⟨#[]⟩, 0, false, false, false⟩ : Tk), (⟨1, ⟨#[99, 111, 108, 111, 114]⟩, 0, false, false, false⟩ : Tk), (⟨16, ⟨#[]⟩, 0, false, false, false⟩ : Tk)]
def tlK : Nat → Nat → List Tk
  | 0, 0 => []
  | 0, 1 => [(⟨9, ⟨#[33]⟩, 0, false, false, false⟩ : Tk), (⟨1, ⟨#[73, 109, 80, 111, 114, 116, 97, 110, 116]⟩, 0, false, false, false⟩ : Tk)]
  | 0, 2 => [(⟨9, ⟨#[33]⟩, 0, false, false, false⟩ : Tk), (⟨1, ⟨#[73, 109, 80, 111, 114, 116, 97, 110, 116]⟩, 0, false, false, false⟩ : Tk), (⟨9, ⟨#[33]⟩, 0, false, false, false⟩ : Tk), (⟨1, ⟨#[73, 109, 80, 111, 114, 116, 97, 110, 116]⟩, 0, false, false, false⟩ : Tk)]
  | 0, 3 => [(⟨9, ⟨#[33]⟩, 0, false, false, false⟩ : Tk), (⟨1, ⟨#[73, 109, 80, 111, 114, 116, 97, 110, 116]⟩, 0, false, false, false⟩ : Tk), (⟨9, ⟨#[33]⟩, 0, false, false, false⟩ : Tk), (⟨1, ⟨#[73, 109, 80, 111, 114, 116, 97, 110, 116]⟩, 0, false, false, false⟩ : Tk), (⟨9, ⟨#[33]⟩, 0, false, false, false⟩ : Tk), (⟨1, ⟨#[73, 109, 80, 111, 114, 116, 97, 110, 116]⟩, 0, false, false, false⟩ : Tk)]
  | 1, 0 => [(⟨13, ⟨#[]⟩, 0, false, false, false⟩ : Tk)]
  | 1, 1 => [(⟨13, ⟨#[]⟩, 0, false, false, false⟩ : Tk), (⟨9, ⟨#[33]⟩, 0, false, false, false⟩ : Tk), (⟨13, ⟨#[]⟩, 0, false, false, false⟩ : Tk), (⟨1, ⟨#[73, 109, 80, 111, 114, 116, 97, 110, 116]⟩, 0, false, false, false⟩ : Tk), (⟨13, ⟨#[]⟩, 0, false, false, false⟩ : Tk)]
  | 1, 2 => [(⟨13, ⟨#[]⟩, 0, false, false, false⟩ : Tk), (⟨9, ⟨#[33]⟩, 0, false, false, false⟩ : Tk), (⟨13, ⟨#[]⟩, 0, false, false, false⟩ : Tk), (⟨1, ⟨#[73, 109, 80, 111, 114, 116, 97, 110, 116]⟩, 0, false, false, false⟩ : Tk), (⟨13, ⟨#[]⟩, 0, false, false, false⟩ : Tk), (⟨9, ⟨#[33]⟩, 0, false, false, false⟩ : Tk), (⟨13, ⟨#[]⟩, 0, false, false, false⟩ : Tk), (⟨1, ⟨#[73, 109, 80, 111, 114, 116, 97, 110, 116]⟩, 0, false, false, false⟩ : Tk), (⟨13, ⟨#[]⟩, 0, false, false, false⟩ : Tk)]
  | 1, 3 => [(⟨13, ⟨#[]⟩, 0, false, false, false⟩ : Tk), (⟨9, ⟨#[33]⟩, 0, false, false, false⟩ : Tk), (⟨13, ⟨#[]⟩, 0, false, false, false⟩ : Tk), (⟨1, ⟨#[73, 109, 80, 111, 114, 116, 97, 110, 116]⟩, 0, false, false, false⟩ : Tk), (⟨13, ⟨#[]⟩, 0, false, false, false⟩ : Tk), (⟨9, ⟨#[33]⟩, 0, false, false, false⟩ : Tk), (⟨13, ⟨#[]⟩, 0, false, false, false⟩ : Tk), (⟨1, ⟨#[73, 109, 80, 111, 114, 116, 97, 110, 116]⟩, 0, false, false, false⟩ : Tk), (⟨13, ⟨#[]⟩, 0, false, false, false⟩ : Tk), (⟨9, ⟨#[33]⟩, 0, false, false, false⟩ : Tk), (⟨13, ⟨#[]⟩, 0, false, false, false⟩ : Tk), (⟨1, ⟨#[73, 109, 80, 111, 114, 116, 97, 110, 116]⟩, 0, false, false, false⟩ : Tk), (⟨13, ⟨#[]⟩, 0, false, false, false⟩ : Tk)]
  | 2, 0 => [(⟨13, ⟨#[]⟩, 0, false, false, false⟩ : Tk)]
  | 2, 1 => [(⟨13, ⟨#[]⟩, 0, false, false, false⟩ : Tk), (⟨9, ⟨#[33]⟩, 0, false, false, false⟩ : Tk), (⟨13, ⟨#[]⟩, 0, false, false, false⟩ : Tk), (⟨1, ⟨#[73, 109, 80, 111, 114, 116, 97, 110, 116]⟩, 0, false, false, false⟩ : Tk), (⟨13, ⟨#[]⟩, 0, false, false, false⟩ : Tk)]
  | 2, 2 => [(⟨13, ⟨#[]⟩, 0, false, false, false⟩ : Tk), (⟨9, ⟨#[33]⟩, 0, false, false, false⟩ : Tk), (⟨13, ⟨#[]⟩, 0, false, false, false⟩ : Tk), (⟨1, ⟨#[73, 109, 80, 111, 114, 116, 97, 110, 116]⟩, 0, false, false, false⟩ : Tk), (⟨13, ⟨#[]⟩, 0, false, false, false⟩ : Tk), (⟨9, ⟨#[33]⟩, 0, false, false, false⟩ : Tk), (⟨13, ⟨#[]⟩, 0, false, false, false⟩ : Tk), (⟨1, ⟨#[73, 109, 80, 111, 114, 116, 97, 110, 116]⟩, 0, false, false, false⟩ : Tk), (⟨13, ⟨#[]⟩, 0, false, false, false⟩ : Tk)]
  | 2, 3 => [(⟨13, ⟨#[]⟩, 0, false, false, false⟩ : Tk), (⟨9, ⟨#[33]⟩, 0, false, false, false⟩ : Tk), (⟨13, ⟨#[]⟩, 0, false, false, false⟩ : Tk), (⟨1, ⟨#[73, 109, 80, 111, 114, 116, 97, 110, 116]⟩, 0, false, false, false⟩ : Tk), (⟨13, ⟨#[]⟩, 0, false, false, false⟩ : Tk), (⟨9, ⟨#[33]⟩, 0, false, false, false⟩ : Tk), (⟨13, ⟨#[]⟩, 0, false, false, false⟩ : Tk), (⟨1, ⟨#[73, 109, 80, 111, 114, 116, 97, 110, 116]⟩, 0, false, false, false⟩ : Tk), (⟨13, ⟨#[]⟩, 0, false, false, false⟩ : Tk), (⟨9, ⟨#[33]⟩, 0, false, false, false⟩ : Tk), (⟨13, ⟨#[]⟩, 0, false, false, false⟩ : Tk), (⟨1, ⟨#[73, 109, 80, 111, 114, 116, 97, 110, 116]⟩, 0, false, false, false⟩ : Tk), (⟨13, ⟨#[]⟩, 0, false, false, false⟩ : Tk)]
  | 3, 0 => [(⟨13, ⟨#[]⟩, 0, false, false, false⟩ : Tk)]
  | 3, 1 => [(⟨13, ⟨#[]⟩, 0, false, false, false⟩ : Tk), (⟨9, ⟨#[33]⟩, 0, false, false, false⟩ : Tk), (⟨13, ⟨#[]⟩, 0, false, false, false⟩ : Tk), (⟨1, ⟨#[73, 109, 80, 111, 114, 116, 97, 110, 116]⟩, 0, false, false, false⟩ : Tk), (⟨13, ⟨#[]⟩, 0, false, false, false⟩ : Tk)]
  | 3, 2 => [(⟨13, ⟨#[]⟩, 0, false, false, false⟩ : Tk), (⟨9, ⟨#[33]⟩, 0, false, false, false⟩ : Tk), (⟨13, ⟨#[]⟩, 0, false, false, false⟩ : Tk), (⟨1, ⟨#[73, 109, 80, 111, 114, 116, 97, 110, 116]⟩, 0, false, false, false⟩ : Tk), (⟨13, ⟨#[]⟩, 0, false, false, false⟩ : Tk), (⟨9, ⟨#[33]⟩, 0, false, false, false⟩ : Tk), (⟨13, ⟨#[]⟩, 0, false, false, false⟩ : Tk), (⟨1, ⟨#[73, 109, 80, 111, 114, 116, 97, 110, 116]⟩, 0, false, false, false⟩ : Tk), (⟨13, ⟨#[]⟩, 0, false, false, false⟩ : Tk)]
  | 3, 3 => [(⟨13, ⟨#[]⟩, 0, false, false, false⟩ : Tk), (⟨9, ⟨#[33]⟩, 0, false, false, false⟩ : Tk), (⟨13, ⟨#[]⟩, 0, false, false, false⟩ : Tk), (⟨1, ⟨#[73, 109, 80, 111, 114, 116, 97, 110, 116]⟩, 0, false, false, false⟩ : Tk), (⟨13, ⟨#[]⟩, 0, false, false, false⟩ : Tk), (⟨9, ⟨#[33]⟩, 0, false, false, false⟩ : Tk), (⟨13, ⟨#[]⟩, 0, false, false, false⟩ : Tk), (⟨1, ⟨#[73, 109, 80, 111, 114, 116, 97, 110, 116]⟩, 0, false, false, false⟩ : Tk), (⟨13, ⟨#[]⟩, 0, false, false, false⟩ : Tk), (⟨9, ⟨#[33]⟩, 0, false, false, false⟩ : Tk), (⟨13, ⟨#[]⟩, 0, false, false, false⟩ : Tk), (⟨1, ⟨#[73, 109, 80, 111, 114, 116, 97, 110, 116]⟩, 0, false, false, false⟩ : Tk), (⟨13, ⟨#[]⟩, 0, false, false, false⟩ : Tk)]
  | 4, 0 => [(⟨13, ⟨#[]⟩, 0, false, false, false⟩ : Tk)]
  | 4, 1 => [(⟨13, ⟨#[]⟩, 0, false, false, false⟩ : Tk), (⟨9, ⟨#[33]⟩, 0, false, false, false⟩ : Tk), (⟨13, ⟨#[]⟩, 0, false, false, false⟩ : Tk), (⟨1, ⟨#[73, 109, 80, 111, 114, 116, 97, 110, 116]⟩, 0, false, false, false⟩ : Tk), (⟨13, ⟨#[]⟩, 0, false, false, false⟩ : Tk)]
  | 4, 2 => [(⟨13, ⟨#[]⟩, 0, false, false, false⟩ : Tk), (⟨9, ⟨#[33]⟩, 0, false, false, false⟩ : Tk), (⟨13, ⟨#[]⟩, 0, false, false, false⟩ : Tk), (⟨1, ⟨#[73, 109, 80, 111, 114, 116, 97, 110, 116]⟩, 0, false, false, false⟩ : Tk), (⟨13, ⟨#[]⟩, 0, false, false, false⟩ : Tk), (⟨9, ⟨#[33]⟩, 0, false, false, false⟩ : Tk), (⟨13, ⟨#[]⟩, 0, false, false, false⟩ : Tk), (⟨1, ⟨#[73, 109, 80, 111, 114, 116, 97, 110, 116]⟩, 0, false, false, false⟩ : Tk), (⟨13, ⟨#[]⟩, 0, false, false, false⟩ : Tk)]
  | 4, 3 => [(⟨13, ⟨#[]⟩, 0, false, false, false⟩ : Tk), (⟨9, ⟨#[33]⟩, 0, false, false, false⟩ : Tk), (⟨13, ⟨#[]⟩, 0, false, false, false⟩ : Tk), (⟨1, ⟨#[73, 109, 80, 111, 114, 116, 97, 110, 116]⟩, 0, false, false, false⟩ : Tk), (⟨13, ⟨#[]⟩, 0, false, false, false⟩ : Tk), (⟨9, ⟨#[33]⟩, 0, false, false, false⟩ : Tk), (⟨13, ⟨#[]⟩, 0, false, false, false⟩ : Tk), (⟨1, ⟨#[73, 109, 80, 111, 114, 116, 97, 110, 116]⟩, 0, false, false, false⟩ : Tk), (⟨13, ⟨#[]⟩, 0, false, false, false⟩ : Tk), (⟨9, ⟨#[33]⟩, 0, false, false, false⟩ : Tk), (⟨13, ⟨#[]⟩, 0, false, false, false⟩ : Tk), (⟨1, ⟨#[73, 109, 80, 111, 114, 116, 97, 110, 116]⟩, 0, false, false, false⟩ : Tk), (⟨13, ⟨#[]⟩, 0, false, false, false⟩ : Tk)]
  | 5, 0 => [(⟨13, ⟨#[]⟩, 0, false, false, false⟩ : Tk)]
  | 5, 1 => [(⟨13, ⟨#[]⟩, 0, false, false, false⟩ : Tk), (⟨9, ⟨#[33]⟩, 0, false, false, false⟩ : Tk), (⟨13, ⟨#[]⟩, 0, false, false, false⟩ : Tk), (⟨1, ⟨#[73, 109, 80, 111, 114, 116, 97, 110, 116]⟩, 0, false, false, false⟩ : Tk), (⟨13, ⟨#[]⟩, 0, false, false, false⟩ : Tk)]
  | 5, 2 => [(⟨13, ⟨#[]⟩, 0, false, false, false⟩ : Tk), (⟨9, ⟨#[33]⟩, 0, false, false, false⟩ : Tk), (⟨13, ⟨#[]⟩, 0, false, false, false⟩ : Tk), (⟨1, ⟨#[73, 109, 80, 111, 114, 116, 97, 110, 116]⟩, 0, false, false, false⟩ : Tk), (⟨13, ⟨#[]⟩, 0, false, false, false⟩ : Tk), (⟨9, ⟨#[33]⟩, 0, false, false, false⟩ : Tk), (⟨13, ⟨#[]⟩, 0, false, false, false⟩ : Tk), (⟨1, ⟨#[73, 109, 80, 111, 114, 116, 97, 110, 116]⟩, 0, false, false, false⟩ : Tk), (⟨13, ⟨#[]⟩, 0, false, false, false⟩ : Tk)]
  | 5, 3 => [(⟨13, ⟨#[]⟩, 0, false, false, false⟩ : Tk), (⟨9, ⟨#[33]⟩, 0, false, false, false⟩ : Tk), (⟨13, ⟨#[]⟩, 0, false, false, false⟩ : Tk), (⟨1, ⟨#[73, 109, 80, 111, 114, 116, 97, 110, 116]⟩, 0, false, false, false⟩ : Tk), (⟨13, ⟨#[]⟩, 0, false, false, false⟩ : Tk), (⟨9, ⟨#[33]⟩, 0, false, false, false⟩ : Tk), (⟨13, ⟨#[]⟩, 0, false, false, false⟩ : Tk), (⟨1, ⟨#[73, 109, 80, 111, 114, 116, 97, 110, 116]⟩, 0, false, false, false⟩ : Tk), (⟨13, ⟨#[]⟩, 0, false, false, false⟩ : Tk), (⟨9, ⟨#[33]⟩, 0, false, false, false⟩ : Tk), (⟨13, ⟨#[]⟩, 0, false, false, false⟩ : Tk), (⟨1, ⟨#[73, 109, 80, 111, 114, 116, 97, 110, 116]⟩, 0, false, false, false⟩ : Tk), (⟨13, ⟨#[]⟩, 0, false, false, false⟩ : Tk)]
  | _, _ => []
def wdT (W : ByteArray) : Tk := ⟨1, W, 0, false, false, false⟩
def kdI (b t : Nat) (W : ByteArray) : List Tk := hKs ++ (hTw :: wdT W :: tlK b t)
def dcI (t : Nat) (W : ByteArray) : List Dc :=
  match t with
  | 0 => [⟨⟨#[99, 111, 108, 111, 114]⟩, [.mk (wdT W) []], false⟩]
  | 1 => [⟨⟨#[99, 111, 108, 111, 114]⟩, [.mk (wdT W) []], true⟩]
  | _ => []
theorem tl_toks : ∀ b, b < 6 → ∀ t, t < 4 → toksL ((tlL b t).map bI) = tlK b t ++ [hTc] ∧ (tlL b t).all plB = true ∧ (tlL b t).length ≤ 100 ∧ (tlK b t).all (fun t => leafB (clzF hTo) t && decide (t.text.size ≤ 1000)) = true ∧ nameF (gt ((tlL b t).map bI) 0) = false ∧ gt ((tlL b t).map bI) 0 ≠ 92 ∧ gt ((tlL b t).map bI) 0 ≠ 40
  | 0, _, 0, _ => ⟨by kernel_rfl, by kernel_rfl, by decide, by kernel_rfl, by kernel_rfl, by decide, by decide⟩
  | 0, _, 1, _ => ⟨by kernel_rfl, by kernel_rfl, by decide, by kernel_rfl, by kernel_rfl, by decide, by decide⟩
  | 0, _, 2, _ => ⟨by kernel_rfl, by kernel_rfl, by decide, by kernel_rfl, by kernel_rfl, by decide, by decide⟩
  | 0, _, 3, _ => ⟨by kernel_rfl, by kernel_rfl, by decide, by kernel_rfl, by kernel_rfl, by decide, by decide⟩
  | 1, _, 0, _ => ⟨by kernel_rfl, by kernel_rfl, by decide, by kernel_rfl, by kernel_rfl, by decide, by decide⟩
  | 1, _, 1, _ => ⟨by kernel_rfl, by kernel_rfl, by decide, by kernel_rfl, by kernel_rfl, by decide, by decide⟩
  | 1, _, 2, _ => ⟨by kernel_rfl, by kernel_rfl, by decide, by kernel_rfl, by kernel_rfl, by decide, by decide⟩
  | 1, _, 3, _ => ⟨by kernel_rfl, by kernel_rfl, by decide, by kernel_rfl, by kernel_rfl, by decide, by decide⟩
  | 2, _, 0, _ => ⟨by kernel_rfl, by kernel_rfl, by decide, by kernel_rfl, by kernel_rfl, by decide, by decide⟩
  | 2, _, 1, _ => ⟨by kernel_rfl, by kernel_rfl, by decide, by kernel_rfl, by kernel_rfl, by decide, by decide⟩
  | 2, _, 2, _ => ⟨by kernel_rfl, by kernel_rfl, by decide, by kernel_rfl, by kernel_rfl, by decide, by decide⟩
  | 2, _, 3, _ => ⟨by kernel_rfl, by kernel_rfl, by decide, by kernel_rfl, by kernel_rfl, by decide, by decide⟩
  | 3, _, 0, _ => ⟨by kernel_rfl, by kernel_rfl, by decide, by kernel_rfl, by kernel_rfl, by decide, by decide⟩
  | 3, _, 1, _ => ⟨by kernel_rfl, by kernel_rfl, by decide, by kernel_rfl, by kernel_rfl, by decide, by decide⟩
  | 3, _, 2, _ => ⟨by kernel_rfl, by kernel_rfl, by decide, by kernel_rfl, by kernel_rfl, by decide, by decide⟩
  | 3, _, 3, _ => ⟨by kernel_rfl, by kernel_rfl, by decide, by kernel_rfl, by kernel_rfl, by decide, by decide⟩
  | 4, _, 0, _ => ⟨by kernel_rfl, by kernel_rfl, by decide, by kernel_rfl, by kernel_rfl, by decide, by decide⟩
  | 4, _, 1, _ => ⟨by kernel_rfl, by kernel_rfl, by decide, by kernel_rfl, by kernel_rfl, by decide, by decide⟩
  | 4, _, 2, _ => ⟨by kernel_rfl, by kernel_rfl, by decide, by kernel_rfl, by kernel_rfl, by decide, by decide⟩
  | 4, _, 3, _ => ⟨by kernel_rfl, by kernel_rfl, by decide, by kernel_rfl, by kernel_rfl, by decide, by decide⟩
  | 5, _, 0, _ => ⟨by kernel_rfl, by kernel_rfl, by decide, by kernel_rfl, by kernel_rfl, by decide, by decide⟩
  | 5, _, 1, _ => ⟨by kernel_rfl, by kernel_rfl, by decide, by kernel_rfl, by kernel_rfl, by decide, by decide⟩
  | 5, _, 2, _ => ⟨by kernel_rfl, by kernel_rfl, by decide, by kernel_rfl, by kernel_rfl, by decide, by decide⟩
  | 5, _, 3, _ => ⟨by kernel_rfl, by kernel_rfl, by decide, by kernel_rfl, by kernel_rfl, by decide, by decide⟩
  | b + 6, h, _, _ => absurd h (by omega)
  | 0, _, t + 4, h => absurd h (by omega)
  | 1, _, t + 4, h => absurd h (by omega)
  | 2, _, t + 4, h => absurd h (by omega)
  | 3, _, t + 4, h => absurd h (by omega)
  | 4, _, t + 4, h => absurd h (by omega)
  | 5, _, t + 4, h => absurd h (by omega)
theorem tl_dec : ∀ b, b < 6 → ∀ t, t < 4 → ∀ W, decA ((kdI b t W).map fun t => .mk t []) 0 = dcI t W
  | 0, _, 0, _, W => by kernel_rfl
  | 0, _, 1, _, W => by kernel_rfl
  | 0, _, 2, _, W => by kernel_rfl
  | 0, _, 3, _, W => by kernel_rfl
  | 1, _, 0, _, W => by kernel_rfl
  | 1, _, 1, _, W => by kernel_rfl
  | 1, _, 2, _, W => by kernel_rfl
  | 1, _, 3, _, W => by kernel_rfl
  | 2, _, 0, _, W => by kernel_rfl
  | 2, _, 1, _, W => by kernel_rfl
  | 2, _, 2, _, W => by kernel_rfl
  | 2, _, 3, _, W => by kernel_rfl
  | 3, _, 0, _, W => by kernel_rfl
  | 3, _, 1, _, W => by kernel_rfl
  | 3, _, 2, _, W => by kernel_rfl
  | 3, _, 3, _, W => by kernel_rfl
  | 4, _, 0, _, W => by kernel_rfl
  | 4, _, 1, _, W => by kernel_rfl
  | 4, _, 2, _, W => by kernel_rfl
  | 4, _, 3, _, W => by kernel_rfl
  | 5, _, 0, _, W => by kernel_rfl
  | 5, _, 1, _, W => by kernel_rfl
  | 5, _, 2, _, W => by kernel_rfl
  | 5, _, 3, _, W => by kernel_rfl
  | b + 6, h, _, _, _ => absurd h (by omega)
  | 0, _, t + 4, h, _ => absurd h (by omega)
  | 1, _, t + 4, h, _ => absurd h (by omega)
  | 2, _, t + 4, h, _ => absurd h (by omega)
  | 3, _, t + 4, h, _ => absurd h (by omega)
  | 4, _, t + 4, h, _ => absurd h (by omega)
  | 5, _, t + 4, h, _ => absurd h (by omega)
def imT (w : List UInt8) (b t : Nat) : List UInt8 := hdI ++ [32] ++ w ++ tlL b t
theorem word_head (w : List UInt8) (hw : wdB w = true) : ∃ c q, w = c :: q ∧ letF (bI c) = true ∧ (q.map bI).all nameF = true ∧ w.all plB = true ∧ runesBytes (w.map bI) = ⟨w.toArray⟩ := by
  rw [wdB, Bool.and_eq_true] at hw
  have hall := List.all_eq_true.1 hw.2
  cases w with
  | nil => cases hw.1
  | cons c q => exact ⟨c, q, rfl, (lt_facts (hall c (by simp))).2.1, by rw [List.all_map]; exact List.all_eq_true.2 fun d hd => (lt_facts (hall d (by simp [hd]))).2.2.1, List.all_eq_true.2 fun d hd => (lt_facts (hall d hd)).1, runes_ascii _ (List.all_eq_true.2 fun d hd => decide_eq_true (lt_facts (hall d hd)).2.2.2)⟩
theorem hd_toksI (rest : List Int) : toksL (hdI.map bI ++ rest) = hT1 :: hTw :: hTo :: (hKs ++ toksL rest) := by
  have h : toksL (hdI.map bI ++ rest) = (hT1 :: hTw :: hTo :: hKs) ++ toksL rest := toks_lit 40 (by kernel_rfl) (by decide)
  exact h
theorem im_pl (w : List UInt8) (b t : Nat) (hb : b < 6) (ht : t < 4) (hw : wdB w = true) : (imT w b t).all plB = true := by
  obtain ⟨c, q, _, _, _, h4, _⟩ := word_head w hw
  obtain ⟨_, h5, _⟩ := tl_toks b hb t ht
  rw [imT, List.all_append, List.all_append, List.all_append, h4, h5]
  show (_ : Bool) = true
  kernel_rfl
theorem im_toks (w : List UInt8) (b t : Nat) (hb : b < 6) (ht : t < 4) (hw : wdB w = true) : toksF (readL ⟨(imT w b t).toArray⟩) = hT1 :: hTw :: hTo :: (kdI b t ⟨w.toArray⟩ ++ hTc :: []) := by
  obtain ⟨c, q, rfl, h2, h3, h4, h5⟩ := word_head w hw
  obtain ⟨g1, g2, g3, g4, g5, g6, g7⟩ := tl_toks b hb t ht
  have e : (imT (c :: q) b t).map bI = hdI.map bI ++ (32 :: [] ++ (bI c :: q.map bI ++ (tlL b t).map bI)) := by
    rw [imT, List.map_append, List.map_append, List.map_append, List.append_assoc, List.append_assoc]; rfl
  have hwt : whiteF (gt (bI c :: q.map bI ++ (tlL b t).map bI) 0) = false := by
    show whiteF (bI c) = false
    have := let_facts h2
    rw [Bool.eq_false_iff]; simp only [ne_eq, whiteF, Bool.or_eq_true, decide_eq_true_eq]; omega
  rw [← toks_L, read_pl _ (im_pl _ b t hb ht hw), e, hd_toksI, toksL_white 32 [] _ rfl hwt, toksL_word (bI c) (q.map bI) _ h2 h3 g5 g6 g7, g1, kdI]
  have e2 : runesBytes (bI c :: q.map bI) = ⟨(c :: q).toArray⟩ := h5
  rw [e2, List.append_assoc]
  rfl
def ndI (b t : Nat) (W : ByteArray) : List Nd := [.mk hT1 [], .mk hTw [], .mk hTo ((kdI b t W).map fun t => .mk t [])]
theorem im_nds (w : List UInt8) (b t : Nat) (hb : b < 6) (ht : t < 4) (hw : wdB w = true) : allF (imT w b t) = ndI b t ⟨w.toArray⟩ := by
  obtain ⟨g1, g2, g3, g4, g5, g6, g7⟩ := tl_toks b hb t ht
  have hg : (kdI b t ⟨w.toArray⟩).all (leafB (clzF hTo)) = true := by
    have h1 : (tlK b t).all (leafB (clzF hTo)) = true := List.all_eq_true.2 fun x hx => by
      have := List.all_eq_true.1 g4 x hx
      rw [Bool.and_eq_true] at this
      exact this.1
    rw [kdI, List.all_append, List.all_cons, List.all_cons, h1]
    show (_ : Bool) = true
    kernel_rfl
  rw [allF, allA_nodes, ← nodes_T, im_toks w b t hb ht hw, nodesT_leaf _ _ (by kernel_rfl), nodesT_leaf _ _ (by kernel_rfl)]
  have h3 := nodesT_open hTo (kdI b t ⟨w.toArray⟩) hTc [] (by decide) hg (by kernel_rfl)
  rw [nodesT_nil] at h3
  exact congrArg (fun q => Nd.mk hT1 [] :: Nd.mk hTw [] :: q) h3
theorem sht1 (K : List Nd) : shtA [.mk hT1 [], .mk hTw [], .mk hTo K] 0 = [⟨⟨#[]⟩, [.mk hT1 []], true, decA K 0⟩] := by kernel_rfl
def rlI (t : Nat) (W : ByteArray) : Rl := ⟨⟨#[]⟩, [.mk hT1 []], true, dcI t W⟩
theorem im_she (w : List UInt8) (b t : Nat) (hb : b < 6) (ht : t < 4) (hw : wdB w = true) : shE (imT w b t) = ([rlI t ⟨w.toArray⟩], 0) := by
  rw [shE, shP, im_nds w b t hb ht hw, ndI, sht1, tl_dec b hb t ht]
  rfl
theorem im_len (w : List UInt8) (b t : Nat) (hb : b < 6) (ht : t < 4) : (imT w b t).length ≤ w.length + 120 := by
  obtain ⟨g1, g2, g3, g4⟩ := tl_toks b hb t ht
  rw [imT, List.length_append, List.length_append, List.length_append, show hdI.length = 10 from rfl, show ([32] : List UInt8).length = 1 from rfl]
  omega
theorem im_ok (w : List UInt8) (b t : Nat) (hb : b < 6) (ht : t < 4) (hw : wdB w = true) (hl : w.length ≤ 20) : PCalls Tryz.prog 12 [.sl 1 ((imT w b t).map bD)] (.tup [.sl 4 ([rlI t ⟨w.toArray⟩].map rlD), .val (.int .i64 0)]) := by
  obtain ⟨g1, g2, g3, g4, g5, g6, g7⟩ := tl_toks b hb t ht
  have hlen := im_len w b t hb ht
  have hws : (⟨w.toArray⟩ : ByteArray).size ≤ 20 := by rw [sz_list]; exact hl
  have hk : ∀ m ∈ (kdI b t ⟨w.toArray⟩).map (fun t => Nd.mk t []), m.tok.text.size ≤ 1099511627776 := by
    intro m hm
    obtain ⟨x, hx, rfl⟩ := List.mem_map.1 hm
    rw [kdI, List.mem_append, List.mem_cons, List.mem_cons] at hx
    show x.text.size ≤ 1099511627776
    rcases hx with hx | rfl | rfl | hx
    · have h1 : hKs.all (fun t => decide (t.text.size ≤ 1000)) = true := by kernel_rfl
      have := of_decide_eq_true (List.all_eq_true.1 h1 x hx)
      omega
    · decide
    · exact Nat.le_trans hws (by decide)
    · have := List.all_eq_true.1 g4 x hx
      rw [Bool.and_eq_true, decide_eq_true_eq] at this
      omega
  have hs := psheet_ok (imT w b t) (by omega) (fun x hx => by
      rw [read_pl _ (im_pl w b t hb ht hw)] at hx
      obtain ⟨c, _, rfl⟩ := List.mem_map.1 hx
      exact Int.natCast_nonneg _) (by
      rw [im_nds w b t hb ht hw, ndI]
      intro n hn ha
      simp only [List.mem_cons, List.not_mem_nil, or_false] at hn
      rcases hn with rfl | rfl | rfl
      · exact absurd ha (by decide)
      · exact absurd ha (by decide)
      · exact absurd ha (by rw [show atKB (.mk hTo _) = false from rfl]; decide)) (by
      rw [im_nds w b t hb ht hw, ndI]
      intro n hn
      simp only [List.mem_cons, List.not_mem_nil, or_false] at hn
      rcases hn with rfl | rfl | rfl <;> exact (show (_ : ByteArray).size ≤ _ from of_decide_eq_true (by kernel_rfl))) (by
      rw [im_nds w b t hb ht hw, ndI]
      intro n hn m hm
      simp only [List.mem_cons, List.not_mem_nil, or_false] at hn
      rcases hn with rfl | rfl | rfl
      · cases hm
      · cases hm
      · exact hk m hm)
  rw [im_she w b t hb ht hw] at hs
  exact hs
end Go.Proofs.YtiolnmfaeenlmaaGreatDoor
