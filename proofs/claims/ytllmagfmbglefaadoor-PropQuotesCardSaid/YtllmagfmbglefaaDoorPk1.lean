/- PropQuotes: what is read of quotes and one thing more, by reckoning. -/
import Derived.Test.YtllmagfmbglefaaDoorPk
namespace Go.Proofs.YtllmagfmbglefaaDoor
open Go Go.RowKit
set_option maxRecDepth 20000

def qE1 (n : Nat) : Val × Int := (zV, 2)
theorem qt1_0 : okS (qT 0 ++ ⟨#[32, 120]⟩) = true ∧ oneF (qT 0 ++ ⟨#[32, 120]⟩) = qE1 0 := ⟨by kernel_rfl, by kernel_rfl⟩
theorem qt1_1 : okS (qT 1 ++ ⟨#[32, 120]⟩) = true ∧ oneF (qT 1 ++ ⟨#[32, 120]⟩) = qE1 1 := ⟨by kernel_rfl, by kernel_rfl⟩
theorem qt1_2 : okS (qT 2 ++ ⟨#[32, 120]⟩) = true ∧ oneF (qT 2 ++ ⟨#[32, 120]⟩) = qE1 2 := ⟨by kernel_rfl, by kernel_rfl⟩
theorem qt1_3 : okS (qT 3 ++ ⟨#[32, 120]⟩) = true ∧ oneF (qT 3 ++ ⟨#[32, 120]⟩) = qE1 3 := ⟨by kernel_rfl, by kernel_rfl⟩
theorem qt1_4 : okS (qT 4 ++ ⟨#[32, 120]⟩) = true ∧ oneF (qT 4 ++ ⟨#[32, 120]⟩) = qE1 4 := ⟨by kernel_rfl, by kernel_rfl⟩
theorem qt1_5 : okS (qT 5 ++ ⟨#[32, 120]⟩) = true ∧ oneF (qT 5 ++ ⟨#[32, 120]⟩) = qE1 5 := ⟨by kernel_rfl, by kernel_rfl⟩
theorem qt1_6 : okS (qT 6 ++ ⟨#[32, 120]⟩) = true ∧ oneF (qT 6 ++ ⟨#[32, 120]⟩) = qE1 6 := ⟨by kernel_rfl, by kernel_rfl⟩
theorem qt1_7 : okS (qT 7 ++ ⟨#[32, 120]⟩) = true ∧ oneF (qT 7 ++ ⟨#[32, 120]⟩) = qE1 7 := ⟨by kernel_rfl, by kernel_rfl⟩
theorem qt1_8 : okS (qT 8 ++ ⟨#[32, 120]⟩) = true ∧ oneF (qT 8 ++ ⟨#[32, 120]⟩) = qE1 8 := ⟨by kernel_rfl, by kernel_rfl⟩
theorem qt1_9 : okS (qT 9 ++ ⟨#[32, 120]⟩) = true ∧ oneF (qT 9 ++ ⟨#[32, 120]⟩) = qE1 9 := ⟨by kernel_rfl, by kernel_rfl⟩
theorem qt1_10 : okS (qT 10 ++ ⟨#[32, 120]⟩) = true ∧ oneF (qT 10 ++ ⟨#[32, 120]⟩) = qE1 10 := ⟨by kernel_rfl, by kernel_rfl⟩
theorem qt1_11 : okS (qT 11 ++ ⟨#[32, 120]⟩) = true ∧ oneF (qT 11 ++ ⟨#[32, 120]⟩) = qE1 11 := ⟨by kernel_rfl, by kernel_rfl⟩
theorem qt1_12 : okS (qT 12 ++ ⟨#[32, 120]⟩) = true ∧ oneF (qT 12 ++ ⟨#[32, 120]⟩) = qE1 12 := ⟨by kernel_rfl, by kernel_rfl⟩
theorem qt1_13 : okS (qT 13 ++ ⟨#[32, 120]⟩) = true ∧ oneF (qT 13 ++ ⟨#[32, 120]⟩) = qE1 13 := ⟨by kernel_rfl, by kernel_rfl⟩
theorem qt1_14 : okS (qT 14 ++ ⟨#[32, 120]⟩) = true ∧ oneF (qT 14 ++ ⟨#[32, 120]⟩) = qE1 14 := ⟨by kernel_rfl, by kernel_rfl⟩
theorem qt1_15 : okS (qT 15 ++ ⟨#[32, 120]⟩) = true ∧ oneF (qT 15 ++ ⟨#[32, 120]⟩) = qE1 15 := ⟨by kernel_rfl, by kernel_rfl⟩
theorem qt1_16 : okS (qT 16 ++ ⟨#[32, 120]⟩) = true ∧ oneF (qT 16 ++ ⟨#[32, 120]⟩) = qE1 16 := ⟨by kernel_rfl, by kernel_rfl⟩
theorem qt1_17 : okS (qT 17 ++ ⟨#[32, 120]⟩) = true ∧ oneF (qT 17 ++ ⟨#[32, 120]⟩) = qE1 17 := ⟨by kernel_rfl, by kernel_rfl⟩
theorem qt1_18 : okS (qT 18 ++ ⟨#[32, 120]⟩) = true ∧ oneF (qT 18 ++ ⟨#[32, 120]⟩) = qE1 18 := ⟨by kernel_rfl, by kernel_rfl⟩
theorem qt1_19 : okS (qT 19 ++ ⟨#[32, 120]⟩) = true ∧ oneF (qT 19 ++ ⟨#[32, 120]⟩) = qE1 19 := ⟨by kernel_rfl, by kernel_rfl⟩
theorem qt1_20 : okS (qT 20 ++ ⟨#[32, 120]⟩) = true ∧ oneF (qT 20 ++ ⟨#[32, 120]⟩) = qE1 20 := ⟨by kernel_rfl, by kernel_rfl⟩
theorem qt1_21 : okS (qT 21 ++ ⟨#[32, 120]⟩) = true ∧ oneF (qT 21 ++ ⟨#[32, 120]⟩) = qE1 21 := ⟨by kernel_rfl, by kernel_rfl⟩
theorem qt1_22 : okS (qT 22 ++ ⟨#[32, 120]⟩) = true ∧ oneF (qT 22 ++ ⟨#[32, 120]⟩) = qE1 22 := ⟨by kernel_rfl, by kernel_rfl⟩
theorem qt1_23 : okS (qT 23 ++ ⟨#[32, 120]⟩) = true ∧ oneF (qT 23 ++ ⟨#[32, 120]⟩) = qE1 23 := ⟨by kernel_rfl, by kernel_rfl⟩
theorem qt1_24 : okS (qT 24 ++ ⟨#[32, 120]⟩) = true ∧ oneF (qT 24 ++ ⟨#[32, 120]⟩) = qE1 24 := ⟨by kernel_rfl, by kernel_rfl⟩
theorem qt1_25 : okS (qT 25 ++ ⟨#[32, 120]⟩) = true ∧ oneF (qT 25 ++ ⟨#[32, 120]⟩) = qE1 25 := ⟨by kernel_rfl, by kernel_rfl⟩
theorem qt1_26 : okS (qT 26 ++ ⟨#[32, 120]⟩) = true ∧ oneF (qT 26 ++ ⟨#[32, 120]⟩) = qE1 26 := ⟨by kernel_rfl, by kernel_rfl⟩
theorem qt1_27 : okS (qT 27 ++ ⟨#[32, 120]⟩) = true ∧ oneF (qT 27 ++ ⟨#[32, 120]⟩) = qE1 27 := ⟨by kernel_rfl, by kernel_rfl⟩
theorem qt1_28 : okS (qT 28 ++ ⟨#[32, 120]⟩) = true ∧ oneF (qT 28 ++ ⟨#[32, 120]⟩) = qE1 28 := ⟨by kernel_rfl, by kernel_rfl⟩
theorem qt1_29 : okS (qT 29 ++ ⟨#[32, 120]⟩) = true ∧ oneF (qT 29 ++ ⟨#[32, 120]⟩) = qE1 29 := ⟨by kernel_rfl, by kernel_rfl⟩
theorem qt1_30 : okS (qT 30 ++ ⟨#[32, 120]⟩) = true ∧ oneF (qT 30 ++ ⟨#[32, 120]⟩) = qE1 30 := ⟨by kernel_rfl, by kernel_rfl⟩
theorem qt1_31 : okS (qT 31 ++ ⟨#[32, 120]⟩) = true ∧ oneF (qT 31 ++ ⟨#[32, 120]⟩) = qE1 31 := ⟨by kernel_rfl, by kernel_rfl⟩
theorem qt1_32 : okS (qT 32 ++ ⟨#[32, 120]⟩) = true ∧ oneF (qT 32 ++ ⟨#[32, 120]⟩) = qE1 32 := ⟨by kernel_rfl, by kernel_rfl⟩
theorem qt1_33 : okS (qT 33 ++ ⟨#[32, 120]⟩) = true ∧ oneF (qT 33 ++ ⟨#[32, 120]⟩) = qE1 33 := ⟨by kernel_rfl, by kernel_rfl⟩
theorem qt1_34 : okS (qT 34 ++ ⟨#[32, 120]⟩) = true ∧ oneF (qT 34 ++ ⟨#[32, 120]⟩) = qE1 34 := ⟨by kernel_rfl, by kernel_rfl⟩
theorem qt1_35 : okS (qT 35 ++ ⟨#[32, 120]⟩) = true ∧ oneF (qT 35 ++ ⟨#[32, 120]⟩) = qE1 35 := ⟨by kernel_rfl, by kernel_rfl⟩
theorem qt1_36 : okS (qT 36 ++ ⟨#[32, 120]⟩) = true ∧ oneF (qT 36 ++ ⟨#[32, 120]⟩) = qE1 36 := ⟨by kernel_rfl, by kernel_rfl⟩
theorem qt1_37 : okS (qT 37 ++ ⟨#[32, 120]⟩) = true ∧ oneF (qT 37 ++ ⟨#[32, 120]⟩) = qE1 37 := ⟨by kernel_rfl, by kernel_rfl⟩
theorem qt1_38 : okS (qT 38 ++ ⟨#[32, 120]⟩) = true ∧ oneF (qT 38 ++ ⟨#[32, 120]⟩) = qE1 38 := ⟨by kernel_rfl, by kernel_rfl⟩
theorem qt1_39 : okS (qT 39 ++ ⟨#[32, 120]⟩) = true ∧ oneF (qT 39 ++ ⟨#[32, 120]⟩) = qE1 39 := ⟨by kernel_rfl, by kernel_rfl⟩
theorem qt1_40 : okS (qT 40 ++ ⟨#[32, 120]⟩) = true ∧ oneF (qT 40 ++ ⟨#[32, 120]⟩) = qE1 40 := ⟨by kernel_rfl, by kernel_rfl⟩
theorem qt1 : ∀ n : Nat, n ≤ 40 → okS (qT n ++ ⟨#[32, 120]⟩) = true ∧ oneF (qT n ++ ⟨#[32, 120]⟩) = qE1 n
  | 0, _ => qt1_0
  | 1, _ => qt1_1
  | 2, _ => qt1_2
  | 3, _ => qt1_3
  | 4, _ => qt1_4
  | 5, _ => qt1_5
  | 6, _ => qt1_6
  | 7, _ => qt1_7
  | 8, _ => qt1_8
  | 9, _ => qt1_9
  | 10, _ => qt1_10
  | 11, _ => qt1_11
  | 12, _ => qt1_12
  | 13, _ => qt1_13
  | 14, _ => qt1_14
  | 15, _ => qt1_15
  | 16, _ => qt1_16
  | 17, _ => qt1_17
  | 18, _ => qt1_18
  | 19, _ => qt1_19
  | 20, _ => qt1_20
  | 21, _ => qt1_21
  | 22, _ => qt1_22
  | 23, _ => qt1_23
  | 24, _ => qt1_24
  | 25, _ => qt1_25
  | 26, _ => qt1_26
  | 27, _ => qt1_27
  | 28, _ => qt1_28
  | 29, _ => qt1_29
  | 30, _ => qt1_30
  | 31, _ => qt1_31
  | 32, _ => qt1_32
  | 33, _ => qt1_33
  | 34, _ => qt1_34
  | 35, _ => qt1_35
  | 36, _ => qt1_36
  | 37, _ => qt1_37
  | 38, _ => qt1_38
  | 39, _ => qt1_39
  | 40, _ => qt1_40
  | _ + 41, h => absurd h (by omega)
end Go.Proofs.YtllmagfmbglefaaDoor
