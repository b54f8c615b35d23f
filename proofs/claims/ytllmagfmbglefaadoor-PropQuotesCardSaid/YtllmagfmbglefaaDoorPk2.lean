/- PropQuotes: what is read of quotes and one thing more, by reckoning. -/
import Derived.Test.YtllmagfmbglefaaDoorPk
namespace Go.Proofs.YtllmagfmbglefaaDoor
open Go Go.RowKit
set_option maxRecDepth 20000

def qE2 (n : Nat) : Val × Int := if n = 0 then (⟨quoS, 0, zS⟩, 0) else (zV, 2)
theorem qt2_0 : okS (qT 0 ++ ⟨#[32, 110, 111, 110, 101]⟩) = true ∧ oneF (qT 0 ++ ⟨#[32, 110, 111, 110, 101]⟩) = qE2 0 := ⟨by kernel_rfl, by kernel_rfl⟩
theorem qt2_1 : okS (qT 1 ++ ⟨#[32, 110, 111, 110, 101]⟩) = true ∧ oneF (qT 1 ++ ⟨#[32, 110, 111, 110, 101]⟩) = qE2 1 := ⟨by kernel_rfl, by kernel_rfl⟩
theorem qt2_2 : okS (qT 2 ++ ⟨#[32, 110, 111, 110, 101]⟩) = true ∧ oneF (qT 2 ++ ⟨#[32, 110, 111, 110, 101]⟩) = qE2 2 := ⟨by kernel_rfl, by kernel_rfl⟩
theorem qt2_3 : okS (qT 3 ++ ⟨#[32, 110, 111, 110, 101]⟩) = true ∧ oneF (qT 3 ++ ⟨#[32, 110, 111, 110, 101]⟩) = qE2 3 := ⟨by kernel_rfl, by kernel_rfl⟩
theorem qt2_4 : okS (qT 4 ++ ⟨#[32, 110, 111, 110, 101]⟩) = true ∧ oneF (qT 4 ++ ⟨#[32, 110, 111, 110, 101]⟩) = qE2 4 := ⟨by kernel_rfl, by kernel_rfl⟩
theorem qt2_5 : okS (qT 5 ++ ⟨#[32, 110, 111, 110, 101]⟩) = true ∧ oneF (qT 5 ++ ⟨#[32, 110, 111, 110, 101]⟩) = qE2 5 := ⟨by kernel_rfl, by kernel_rfl⟩
theorem qt2_6 : okS (qT 6 ++ ⟨#[32, 110, 111, 110, 101]⟩) = true ∧ oneF (qT 6 ++ ⟨#[32, 110, 111, 110, 101]⟩) = qE2 6 := ⟨by kernel_rfl, by kernel_rfl⟩
theorem qt2_7 : okS (qT 7 ++ ⟨#[32, 110, 111, 110, 101]⟩) = true ∧ oneF (qT 7 ++ ⟨#[32, 110, 111, 110, 101]⟩) = qE2 7 := ⟨by kernel_rfl, by kernel_rfl⟩
theorem qt2_8 : okS (qT 8 ++ ⟨#[32, 110, 111, 110, 101]⟩) = true ∧ oneF (qT 8 ++ ⟨#[32, 110, 111, 110, 101]⟩) = qE2 8 := ⟨by kernel_rfl, by kernel_rfl⟩
theorem qt2_9 : okS (qT 9 ++ ⟨#[32, 110, 111, 110, 101]⟩) = true ∧ oneF (qT 9 ++ ⟨#[32, 110, 111, 110, 101]⟩) = qE2 9 := ⟨by kernel_rfl, by kernel_rfl⟩
theorem qt2_10 : okS (qT 10 ++ ⟨#[32, 110, 111, 110, 101]⟩) = true ∧ oneF (qT 10 ++ ⟨#[32, 110, 111, 110, 101]⟩) = qE2 10 := ⟨by kernel_rfl, by kernel_rfl⟩
theorem qt2_11 : okS (qT 11 ++ ⟨#[32, 110, 111, 110, 101]⟩) = true ∧ oneF (qT 11 ++ ⟨#[32, 110, 111, 110, 101]⟩) = qE2 11 := ⟨by kernel_rfl, by kernel_rfl⟩
theorem qt2_12 : okS (qT 12 ++ ⟨#[32, 110, 111, 110, 101]⟩) = true ∧ oneF (qT 12 ++ ⟨#[32, 110, 111, 110, 101]⟩) = qE2 12 := ⟨by kernel_rfl, by kernel_rfl⟩
theorem qt2_13 : okS (qT 13 ++ ⟨#[32, 110, 111, 110, 101]⟩) = true ∧ oneF (qT 13 ++ ⟨#[32, 110, 111, 110, 101]⟩) = qE2 13 := ⟨by kernel_rfl, by kernel_rfl⟩
theorem qt2_14 : okS (qT 14 ++ ⟨#[32, 110, 111, 110, 101]⟩) = true ∧ oneF (qT 14 ++ ⟨#[32, 110, 111, 110, 101]⟩) = qE2 14 := ⟨by kernel_rfl, by kernel_rfl⟩
theorem qt2_15 : okS (qT 15 ++ ⟨#[32, 110, 111, 110, 101]⟩) = true ∧ oneF (qT 15 ++ ⟨#[32, 110, 111, 110, 101]⟩) = qE2 15 := ⟨by kernel_rfl, by kernel_rfl⟩
theorem qt2_16 : okS (qT 16 ++ ⟨#[32, 110, 111, 110, 101]⟩) = true ∧ oneF (qT 16 ++ ⟨#[32, 110, 111, 110, 101]⟩) = qE2 16 := ⟨by kernel_rfl, by kernel_rfl⟩
theorem qt2_17 : okS (qT 17 ++ ⟨#[32, 110, 111, 110, 101]⟩) = true ∧ oneF (qT 17 ++ ⟨#[32, 110, 111, 110, 101]⟩) = qE2 17 := ⟨by kernel_rfl, by kernel_rfl⟩
theorem qt2_18 : okS (qT 18 ++ ⟨#[32, 110, 111, 110, 101]⟩) = true ∧ oneF (qT 18 ++ ⟨#[32, 110, 111, 110, 101]⟩) = qE2 18 := ⟨by kernel_rfl, by kernel_rfl⟩
theorem qt2_19 : okS (qT 19 ++ ⟨#[32, 110, 111, 110, 101]⟩) = true ∧ oneF (qT 19 ++ ⟨#[32, 110, 111, 110, 101]⟩) = qE2 19 := ⟨by kernel_rfl, by kernel_rfl⟩
theorem qt2_20 : okS (qT 20 ++ ⟨#[32, 110, 111, 110, 101]⟩) = true ∧ oneF (qT 20 ++ ⟨#[32, 110, 111, 110, 101]⟩) = qE2 20 := ⟨by kernel_rfl, by kernel_rfl⟩
theorem qt2_21 : okS (qT 21 ++ ⟨#[32, 110, 111, 110, 101]⟩) = true ∧ oneF (qT 21 ++ ⟨#[32, 110, 111, 110, 101]⟩) = qE2 21 := ⟨by kernel_rfl, by kernel_rfl⟩
theorem qt2_22 : okS (qT 22 ++ ⟨#[32, 110, 111, 110, 101]⟩) = true ∧ oneF (qT 22 ++ ⟨#[32, 110, 111, 110, 101]⟩) = qE2 22 := ⟨by kernel_rfl, by kernel_rfl⟩
theorem qt2_23 : okS (qT 23 ++ ⟨#[32, 110, 111, 110, 101]⟩) = true ∧ oneF (qT 23 ++ ⟨#[32, 110, 111, 110, 101]⟩) = qE2 23 := ⟨by kernel_rfl, by kernel_rfl⟩
theorem qt2_24 : okS (qT 24 ++ ⟨#[32, 110, 111, 110, 101]⟩) = true ∧ oneF (qT 24 ++ ⟨#[32, 110, 111, 110, 101]⟩) = qE2 24 := ⟨by kernel_rfl, by kernel_rfl⟩
theorem qt2_25 : okS (qT 25 ++ ⟨#[32, 110, 111, 110, 101]⟩) = true ∧ oneF (qT 25 ++ ⟨#[32, 110, 111, 110, 101]⟩) = qE2 25 := ⟨by kernel_rfl, by kernel_rfl⟩
theorem qt2_26 : okS (qT 26 ++ ⟨#[32, 110, 111, 110, 101]⟩) = true ∧ oneF (qT 26 ++ ⟨#[32, 110, 111, 110, 101]⟩) = qE2 26 := ⟨by kernel_rfl, by kernel_rfl⟩
theorem qt2_27 : okS (qT 27 ++ ⟨#[32, 110, 111, 110, 101]⟩) = true ∧ oneF (qT 27 ++ ⟨#[32, 110, 111, 110, 101]⟩) = qE2 27 := ⟨by kernel_rfl, by kernel_rfl⟩
theorem qt2_28 : okS (qT 28 ++ ⟨#[32, 110, 111, 110, 101]⟩) = true ∧ oneF (qT 28 ++ ⟨#[32, 110, 111, 110, 101]⟩) = qE2 28 := ⟨by kernel_rfl, by kernel_rfl⟩
theorem qt2_29 : okS (qT 29 ++ ⟨#[32, 110, 111, 110, 101]⟩) = true ∧ oneF (qT 29 ++ ⟨#[32, 110, 111, 110, 101]⟩) = qE2 29 := ⟨by kernel_rfl, by kernel_rfl⟩
theorem qt2_30 : okS (qT 30 ++ ⟨#[32, 110, 111, 110, 101]⟩) = true ∧ oneF (qT 30 ++ ⟨#[32, 110, 111, 110, 101]⟩) = qE2 30 := ⟨by kernel_rfl, by kernel_rfl⟩
theorem qt2_31 : okS (qT 31 ++ ⟨#[32, 110, 111, 110, 101]⟩) = true ∧ oneF (qT 31 ++ ⟨#[32, 110, 111, 110, 101]⟩) = qE2 31 := ⟨by kernel_rfl, by kernel_rfl⟩
theorem qt2_32 : okS (qT 32 ++ ⟨#[32, 110, 111, 110, 101]⟩) = true ∧ oneF (qT 32 ++ ⟨#[32, 110, 111, 110, 101]⟩) = qE2 32 := ⟨by kernel_rfl, by kernel_rfl⟩
theorem qt2_33 : okS (qT 33 ++ ⟨#[32, 110, 111, 110, 101]⟩) = true ∧ oneF (qT 33 ++ ⟨#[32, 110, 111, 110, 101]⟩) = qE2 33 := ⟨by kernel_rfl, by kernel_rfl⟩
theorem qt2_34 : okS (qT 34 ++ ⟨#[32, 110, 111, 110, 101]⟩) = true ∧ oneF (qT 34 ++ ⟨#[32, 110, 111, 110, 101]⟩) = qE2 34 := ⟨by kernel_rfl, by kernel_rfl⟩
theorem qt2_35 : okS (qT 35 ++ ⟨#[32, 110, 111, 110, 101]⟩) = true ∧ oneF (qT 35 ++ ⟨#[32, 110, 111, 110, 101]⟩) = qE2 35 := ⟨by kernel_rfl, by kernel_rfl⟩
theorem qt2_36 : okS (qT 36 ++ ⟨#[32, 110, 111, 110, 101]⟩) = true ∧ oneF (qT 36 ++ ⟨#[32, 110, 111, 110, 101]⟩) = qE2 36 := ⟨by kernel_rfl, by kernel_rfl⟩
theorem qt2_37 : okS (qT 37 ++ ⟨#[32, 110, 111, 110, 101]⟩) = true ∧ oneF (qT 37 ++ ⟨#[32, 110, 111, 110, 101]⟩) = qE2 37 := ⟨by kernel_rfl, by kernel_rfl⟩
theorem qt2_38 : okS (qT 38 ++ ⟨#[32, 110, 111, 110, 101]⟩) = true ∧ oneF (qT 38 ++ ⟨#[32, 110, 111, 110, 101]⟩) = qE2 38 := ⟨by kernel_rfl, by kernel_rfl⟩
theorem qt2_39 : okS (qT 39 ++ ⟨#[32, 110, 111, 110, 101]⟩) = true ∧ oneF (qT 39 ++ ⟨#[32, 110, 111, 110, 101]⟩) = qE2 39 := ⟨by kernel_rfl, by kernel_rfl⟩
theorem qt2_40 : okS (qT 40 ++ ⟨#[32, 110, 111, 110, 101]⟩) = true ∧ oneF (qT 40 ++ ⟨#[32, 110, 111, 110, 101]⟩) = qE2 40 := ⟨by kernel_rfl, by kernel_rfl⟩
theorem qt2 : ∀ n : Nat, n ≤ 40 → okS (qT n ++ ⟨#[32, 110, 111, 110, 101]⟩) = true ∧ oneF (qT n ++ ⟨#[32, 110, 111, 110, 101]⟩) = qE2 n
  | 0, _ => qt2_0
  | 1, _ => qt2_1
  | 2, _ => qt2_2
  | 3, _ => qt2_3
  | 4, _ => qt2_4
  | 5, _ => qt2_5
  | 6, _ => qt2_6
  | 7, _ => qt2_7
  | 8, _ => qt2_8
  | 9, _ => qt2_9
  | 10, _ => qt2_10
  | 11, _ => qt2_11
  | 12, _ => qt2_12
  | 13, _ => qt2_13
  | 14, _ => qt2_14
  | 15, _ => qt2_15
  | 16, _ => qt2_16
  | 17, _ => qt2_17
  | 18, _ => qt2_18
  | 19, _ => qt2_19
  | 20, _ => qt2_20
  | 21, _ => qt2_21
  | 22, _ => qt2_22
  | 23, _ => qt2_23
  | 24, _ => qt2_24
  | 25, _ => qt2_25
  | 26, _ => qt2_26
  | 27, _ => qt2_27
  | 28, _ => qt2_28
  | 29, _ => qt2_29
  | 30, _ => qt2_30
  | 31, _ => qt2_31
  | 32, _ => qt2_32
  | 33, _ => qt2_33
  | 34, _ => qt2_34
  | 35, _ => qt2_35
  | 36, _ => qt2_36
  | 37, _ => qt2_37
  | 38, _ => qt2_38
  | 39, _ => qt2_39
  | 40, _ => qt2_40
  | _ + 41, h => absurd h (by omega)
end Go.Proofs.YtllmagfmbglefaaDoor
