/- PropQuotes: what is read of quotes and one thing more, by reckoning. -/
import Derived.Test.YtllmagfmbglefaaDoorPk
namespace Go.Proofs.YtllmagfmbglefaaDoor
open Go Go.RowKit
set_option maxRecDepth 20000

def qE3 (n : Nat) : Val × Int := (zV, 2)
theorem qt3_0 : okS (qT 0 ++ ⟨#[32, 51]⟩) = true ∧ oneF (qT 0 ++ ⟨#[32, 51]⟩) = qE3 0 := ⟨by kernel_rfl, by kernel_rfl⟩
theorem qt3_1 : okS (qT 1 ++ ⟨#[32, 51]⟩) = true ∧ oneF (qT 1 ++ ⟨#[32, 51]⟩) = qE3 1 := ⟨by kernel_rfl, by kernel_rfl⟩
theorem qt3_2 : okS (qT 2 ++ ⟨#[32, 51]⟩) = true ∧ oneF (qT 2 ++ ⟨#[32, 51]⟩) = qE3 2 := ⟨by kernel_rfl, by kernel_rfl⟩
theorem qt3_3 : okS (qT 3 ++ ⟨#[32, 51]⟩) = true ∧ oneF (qT 3 ++ ⟨#[32, 51]⟩) = qE3 3 := ⟨by kernel_rfl, by kernel_rfl⟩
theorem qt3_4 : okS (qT 4 ++ ⟨#[32, 51]⟩) = true ∧ oneF (qT 4 ++ ⟨#[32, 51]⟩) = qE3 4 := ⟨by kernel_rfl, by kernel_rfl⟩
theorem qt3_5 : okS (qT 5 ++ ⟨#[32, 51]⟩) = true ∧ oneF (qT 5 ++ ⟨#[32, 51]⟩) = qE3 5 := ⟨by kernel_rfl, by kernel_rfl⟩
theorem qt3_6 : okS (qT 6 ++ ⟨#[32, 51]⟩) = true ∧ oneF (qT 6 ++ ⟨#[32, 51]⟩) = qE3 6 := ⟨by kernel_rfl, by kernel_rfl⟩
theorem qt3_7 : okS (qT 7 ++ ⟨#[32, 51]⟩) = true ∧ oneF (qT 7 ++ ⟨#[32, 51]⟩) = qE3 7 := ⟨by kernel_rfl, by kernel_rfl⟩
theorem qt3_8 : okS (qT 8 ++ ⟨#[32, 51]⟩) = true ∧ oneF (qT 8 ++ ⟨#[32, 51]⟩) = qE3 8 := ⟨by kernel_rfl, by kernel_rfl⟩
theorem qt3_9 : okS (qT 9 ++ ⟨#[32, 51]⟩) = true ∧ oneF (qT 9 ++ ⟨#[32, 51]⟩) = qE3 9 := ⟨by kernel_rfl, by kernel_rfl⟩
theorem qt3_10 : okS (qT 10 ++ ⟨#[32, 51]⟩) = true ∧ oneF (qT 10 ++ ⟨#[32, 51]⟩) = qE3 10 := ⟨by kernel_rfl, by kernel_rfl⟩
theorem qt3_11 : okS (qT 11 ++ ⟨#[32, 51]⟩) = true ∧ oneF (qT 11 ++ ⟨#[32, 51]⟩) = qE3 11 := ⟨by kernel_rfl, by kernel_rfl⟩
theorem qt3_12 : okS (qT 12 ++ ⟨#[32, 51]⟩) = true ∧ oneF (qT 12 ++ ⟨#[32, 51]⟩) = qE3 12 := ⟨by kernel_rfl, by kernel_rfl⟩
theorem qt3_13 : okS (qT 13 ++ ⟨#[32, 51]⟩) = true ∧ oneF (qT 13 ++ ⟨#[32, 51]⟩) = qE3 13 := ⟨by kernel_rfl, by kernel_rfl⟩
theorem qt3_14 : okS (qT 14 ++ ⟨#[32, 51]⟩) = true ∧ oneF (qT 14 ++ ⟨#[32, 51]⟩) = qE3 14 := ⟨by kernel_rfl, by kernel_rfl⟩
theorem qt3_15 : okS (qT 15 ++ ⟨#[32, 51]⟩) = true ∧ oneF (qT 15 ++ ⟨#[32, 51]⟩) = qE3 15 := ⟨by kernel_rfl, by kernel_rfl⟩
theorem qt3_16 : okS (qT 16 ++ ⟨#[32, 51]⟩) = true ∧ oneF (qT 16 ++ ⟨#[32, 51]⟩) = qE3 16 := ⟨by kernel_rfl, by kernel_rfl⟩
theorem qt3_17 : okS (qT 17 ++ ⟨#[32, 51]⟩) = true ∧ oneF (qT 17 ++ ⟨#[32, 51]⟩) = qE3 17 := ⟨by kernel_rfl, by kernel_rfl⟩
theorem qt3_18 : okS (qT 18 ++ ⟨#[32, 51]⟩) = true ∧ oneF (qT 18 ++ ⟨#[32, 51]⟩) = qE3 18 := ⟨by kernel_rfl, by kernel_rfl⟩
theorem qt3_19 : okS (qT 19 ++ ⟨#[32, 51]⟩) = true ∧ oneF (qT 19 ++ ⟨#[32, 51]⟩) = qE3 19 := ⟨by kernel_rfl, by kernel_rfl⟩
theorem qt3_20 : okS (qT 20 ++ ⟨#[32, 51]⟩) = true ∧ oneF (qT 20 ++ ⟨#[32, 51]⟩) = qE3 20 := ⟨by kernel_rfl, by kernel_rfl⟩
theorem qt3_21 : okS (qT 21 ++ ⟨#[32, 51]⟩) = true ∧ oneF (qT 21 ++ ⟨#[32, 51]⟩) = qE3 21 := ⟨by kernel_rfl, by kernel_rfl⟩
theorem qt3_22 : okS (qT 22 ++ ⟨#[32, 51]⟩) = true ∧ oneF (qT 22 ++ ⟨#[32, 51]⟩) = qE3 22 := ⟨by kernel_rfl, by kernel_rfl⟩
theorem qt3_23 : okS (qT 23 ++ ⟨#[32, 51]⟩) = true ∧ oneF (qT 23 ++ ⟨#[32, 51]⟩) = qE3 23 := ⟨by kernel_rfl, by kernel_rfl⟩
theorem qt3_24 : okS (qT 24 ++ ⟨#[32, 51]⟩) = true ∧ oneF (qT 24 ++ ⟨#[32, 51]⟩) = qE3 24 := ⟨by kernel_rfl, by kernel_rfl⟩
theorem qt3_25 : okS (qT 25 ++ ⟨#[32, 51]⟩) = true ∧ oneF (qT 25 ++ ⟨#[32, 51]⟩) = qE3 25 := ⟨by kernel_rfl, by kernel_rfl⟩
theorem qt3_26 : okS (qT 26 ++ ⟨#[32, 51]⟩) = true ∧ oneF (qT 26 ++ ⟨#[32, 51]⟩) = qE3 26 := ⟨by kernel_rfl, by kernel_rfl⟩
theorem qt3_27 : okS (qT 27 ++ ⟨#[32, 51]⟩) = true ∧ oneF (qT 27 ++ ⟨#[32, 51]⟩) = qE3 27 := ⟨by kernel_rfl, by kernel_rfl⟩
theorem qt3_28 : okS (qT 28 ++ ⟨#[32, 51]⟩) = true ∧ oneF (qT 28 ++ ⟨#[32, 51]⟩) = qE3 28 := ⟨by kernel_rfl, by kernel_rfl⟩
theorem qt3_29 : okS (qT 29 ++ ⟨#[32, 51]⟩) = true ∧ oneF (qT 29 ++ ⟨#[32, 51]⟩) = qE3 29 := ⟨by kernel_rfl, by kernel_rfl⟩
theorem qt3_30 : okS (qT 30 ++ ⟨#[32, 51]⟩) = true ∧ oneF (qT 30 ++ ⟨#[32, 51]⟩) = qE3 30 := ⟨by kernel_rfl, by kernel_rfl⟩
theorem qt3_31 : okS (qT 31 ++ ⟨#[32, 51]⟩) = true ∧ oneF (qT 31 ++ ⟨#[32, 51]⟩) = qE3 31 := ⟨by kernel_rfl, by kernel_rfl⟩
theorem qt3_32 : okS (qT 32 ++ ⟨#[32, 51]⟩) = true ∧ oneF (qT 32 ++ ⟨#[32, 51]⟩) = qE3 32 := ⟨by kernel_rfl, by kernel_rfl⟩
theorem qt3_33 : okS (qT 33 ++ ⟨#[32, 51]⟩) = true ∧ oneF (qT 33 ++ ⟨#[32, 51]⟩) = qE3 33 := ⟨by kernel_rfl, by kernel_rfl⟩
theorem qt3_34 : okS (qT 34 ++ ⟨#[32, 51]⟩) = true ∧ oneF (qT 34 ++ ⟨#[32, 51]⟩) = qE3 34 := ⟨by kernel_rfl, by kernel_rfl⟩
theorem qt3_35 : okS (qT 35 ++ ⟨#[32, 51]⟩) = true ∧ oneF (qT 35 ++ ⟨#[32, 51]⟩) = qE3 35 := ⟨by kernel_rfl, by kernel_rfl⟩
theorem qt3_36 : okS (qT 36 ++ ⟨#[32, 51]⟩) = true ∧ oneF (qT 36 ++ ⟨#[32, 51]⟩) = qE3 36 := ⟨by kernel_rfl, by kernel_rfl⟩
theorem qt3_37 : okS (qT 37 ++ ⟨#[32, 51]⟩) = true ∧ oneF (qT 37 ++ ⟨#[32, 51]⟩) = qE3 37 := ⟨by kernel_rfl, by kernel_rfl⟩
theorem qt3_38 : okS (qT 38 ++ ⟨#[32, 51]⟩) = true ∧ oneF (qT 38 ++ ⟨#[32, 51]⟩) = qE3 38 := ⟨by kernel_rfl, by kernel_rfl⟩
theorem qt3_39 : okS (qT 39 ++ ⟨#[32, 51]⟩) = true ∧ oneF (qT 39 ++ ⟨#[32, 51]⟩) = qE3 39 := ⟨by kernel_rfl, by kernel_rfl⟩
theorem qt3_40 : okS (qT 40 ++ ⟨#[32, 51]⟩) = true ∧ oneF (qT 40 ++ ⟨#[32, 51]⟩) = qE3 40 := ⟨by kernel_rfl, by kernel_rfl⟩
theorem qt3 : ∀ n : Nat, n ≤ 40 → okS (qT n ++ ⟨#[32, 51]⟩) = true ∧ oneF (qT n ++ ⟨#[32, 51]⟩) = qE3 n
  | 0, _ => qt3_0
  | 1, _ => qt3_1
  | 2, _ => qt3_2
  | 3, _ => qt3_3
  | 4, _ => qt3_4
  | 5, _ => qt3_5
  | 6, _ => qt3_6
  | 7, _ => qt3_7
  | 8, _ => qt3_8
  | 9, _ => qt3_9
  | 10, _ => qt3_10
  | 11, _ => qt3_11
  | 12, _ => qt3_12
  | 13, _ => qt3_13
  | 14, _ => qt3_14
  | 15, _ => qt3_15
  | 16, _ => qt3_16
  | 17, _ => qt3_17
  | 18, _ => qt3_18
  | 19, _ => qt3_19
  | 20, _ => qt3_20
  | 21, _ => qt3_21
  | 22, _ => qt3_22
  | 23, _ => qt3_23
  | 24, _ => qt3_24
  | 25, _ => qt3_25
  | 26, _ => qt3_26
  | 27, _ => qt3_27
  | 28, _ => qt3_28
  | 29, _ => qt3_29
  | 30, _ => qt3_30
  | 31, _ => qt3_31
  | 32, _ => qt3_32
  | 33, _ => qt3_33
  | 34, _ => qt3_34
  | 35, _ => qt3_35
  | 36, _ => qt3_36
  | 37, _ => qt3_37
  | 38, _ => qt3_38
  | 39, _ => qt3_39
  | 40, _ => qt3_40
  | _ + 41, h => absurd h (by omega)
end Go.Proofs.YtllmagfmbglefaaDoor
