/- PropQuotes: what is read of quotes alone, by reckoning. -/
import Derived.Test.YtllmagfmbglefaaDoorPk
namespace Go.Proofs.YtllmagfmbglefaaDoor
open Go Go.RowKit
set_option maxRecDepth 20000

def qE0 (n : Nat) : Val × Int := if n = 0 then (zV, 5) else if n % 2 = 0 ∧ n ≤ 32 then (⟨quoS, 0, { zS with quotes := wT n }⟩, 0) else (zV, 2)
theorem qt0_0 : okS (qT 0 ++ ⟨#[]⟩) = true ∧ oneF (qT 0 ++ ⟨#[]⟩) = qE0 0 := ⟨by kernel_rfl, by kernel_rfl⟩
theorem qt0_1 : okS (qT 1 ++ ⟨#[]⟩) = true ∧ oneF (qT 1 ++ ⟨#[]⟩) = qE0 1 := ⟨by kernel_rfl, by kernel_rfl⟩
theorem qt0_2 : okS (qT 2 ++ ⟨#[]⟩) = true ∧ oneF (qT 2 ++ ⟨#[]⟩) = qE0 2 := ⟨by kernel_rfl, by kernel_rfl⟩
theorem qt0_3 : okS (qT 3 ++ ⟨#[]⟩) = true ∧ oneF (qT 3 ++ ⟨#[]⟩) = qE0 3 := ⟨by kernel_rfl, by kernel_rfl⟩
theorem qt0_4 : okS (qT 4 ++ ⟨#[]⟩) = true ∧ oneF (qT 4 ++ ⟨#[]⟩) = qE0 4 := ⟨by kernel_rfl, by kernel_rfl⟩
theorem qt0_5 : okS (qT 5 ++ ⟨#[]⟩) = true ∧ oneF (qT 5 ++ ⟨#[]⟩) = qE0 5 := ⟨by kernel_rfl, by kernel_rfl⟩
theorem qt0_6 : okS (qT 6 ++ ⟨#[]⟩) = true ∧ oneF (qT 6 ++ ⟨#[]⟩) = qE0 6 := ⟨by kernel_rfl, by kernel_rfl⟩
theorem qt0_7 : okS (qT 7 ++ ⟨#[]⟩) = true ∧ oneF (qT 7 ++ ⟨#[]⟩) = qE0 7 := ⟨by kernel_rfl, by kernel_rfl⟩
theorem qt0_8 : okS (qT 8 ++ ⟨#[]⟩) = true ∧ oneF (qT 8 ++ ⟨#[]⟩) = qE0 8 := ⟨by kernel_rfl, by kernel_rfl⟩
theorem qt0_9 : okS (qT 9 ++ ⟨#[]⟩) = true ∧ oneF (qT 9 ++ ⟨#[]⟩) = qE0 9 := ⟨by kernel_rfl, by kernel_rfl⟩
theorem qt0_10 : okS (qT 10 ++ ⟨#[]⟩) = true ∧ oneF (qT 10 ++ ⟨#[]⟩) = qE0 10 := ⟨by kernel_rfl, by kernel_rfl⟩
theorem qt0_11 : okS (qT 11 ++ ⟨#[]⟩) = true ∧ oneF (qT 11 ++ ⟨#[]⟩) = qE0 11 := ⟨by kernel_rfl, by kernel_rfl⟩
theorem qt0_12 : okS (qT 12 ++ ⟨#[]⟩) = true ∧ oneF (qT 12 ++ ⟨#[]⟩) = qE0 12 := ⟨by kernel_rfl, by kernel_rfl⟩
theorem qt0_13 : okS (qT 13 ++ ⟨#[]⟩) = true ∧ oneF (qT 13 ++ ⟨#[]⟩) = qE0 13 := ⟨by kernel_rfl, by kernel_rfl⟩
theorem qt0_14 : okS (qT 14 ++ ⟨#[]⟩) = true ∧ oneF (qT 14 ++ ⟨#[]⟩) = qE0 14 := ⟨by kernel_rfl, by kernel_rfl⟩
theorem qt0_15 : okS (qT 15 ++ ⟨#[]⟩) = true ∧ oneF (qT 15 ++ ⟨#[]⟩) = qE0 15 := ⟨by kernel_rfl, by kernel_rfl⟩
theorem qt0_16 : okS (qT 16 ++ ⟨#[]⟩) = true ∧ oneF (qT 16 ++ ⟨#[]⟩) = qE0 16 := ⟨by kernel_rfl, by kernel_rfl⟩
theorem qt0_17 : okS (qT 17 ++ ⟨#[]⟩) = true ∧ oneF (qT 17 ++ ⟨#[]⟩) = qE0 17 := ⟨by kernel_rfl, by kernel_rfl⟩
theorem qt0_18 : okS (qT 18 ++ ⟨#[]⟩) = true ∧ oneF (qT 18 ++ ⟨#[]⟩) = qE0 18 := ⟨by kernel_rfl, by kernel_rfl⟩
theorem qt0_19 : okS (qT 19 ++ ⟨#[]⟩) = true ∧ oneF (qT 19 ++ ⟨#[]⟩) = qE0 19 := ⟨by kernel_rfl, by kernel_rfl⟩
theorem qt0_20 : okS (qT 20 ++ ⟨#[]⟩) = true ∧ oneF (qT 20 ++ ⟨#[]⟩) = qE0 20 := ⟨by kernel_rfl, by kernel_rfl⟩
theorem qt0_21 : okS (qT 21 ++ ⟨#[]⟩) = true ∧ oneF (qT 21 ++ ⟨#[]⟩) = qE0 21 := ⟨by kernel_rfl, by kernel_rfl⟩
theorem qt0_22 : okS (qT 22 ++ ⟨#[]⟩) = true ∧ oneF (qT 22 ++ ⟨#[]⟩) = qE0 22 := ⟨by kernel_rfl, by kernel_rfl⟩
theorem qt0_23 : okS (qT 23 ++ ⟨#[]⟩) = true ∧ oneF (qT 23 ++ ⟨#[]⟩) = qE0 23 := ⟨by kernel_rfl, by kernel_rfl⟩
theorem qt0_24 : okS (qT 24 ++ ⟨#[]⟩) = true ∧ oneF (qT 24 ++ ⟨#[]⟩) = qE0 24 := ⟨by kernel_rfl, by kernel_rfl⟩
theorem qt0_25 : okS (qT 25 ++ ⟨#[]⟩) = true ∧ oneF (qT 25 ++ ⟨#[]⟩) = qE0 25 := ⟨by kernel_rfl, by kernel_rfl⟩
theorem qt0_26 : okS (qT 26 ++ ⟨#[]⟩) = true ∧ oneF (qT 26 ++ ⟨#[]⟩) = qE0 26 := ⟨by kernel_rfl, by kernel_rfl⟩
theorem qt0_27 : okS (qT 27 ++ ⟨#[]⟩) = true ∧ oneF (qT 27 ++ ⟨#[]⟩) = qE0 27 := ⟨by kernel_rfl, by kernel_rfl⟩
theorem qt0_28 : okS (qT 28 ++ ⟨#[]⟩) = true ∧ oneF (qT 28 ++ ⟨#[]⟩) = qE0 28 := ⟨by kernel_rfl, by kernel_rfl⟩
theorem qt0_29 : okS (qT 29 ++ ⟨#[]⟩) = true ∧ oneF (qT 29 ++ ⟨#[]⟩) = qE0 29 := ⟨by kernel_rfl, by kernel_rfl⟩
theorem qt0_30 : okS (qT 30 ++ ⟨#[]⟩) = true ∧ oneF (qT 30 ++ ⟨#[]⟩) = qE0 30 := ⟨by kernel_rfl, by kernel_rfl⟩
theorem qt0_31 : okS (qT 31 ++ ⟨#[]⟩) = true ∧ oneF (qT 31 ++ ⟨#[]⟩) = qE0 31 := ⟨by kernel_rfl, by kernel_rfl⟩
theorem qt0_32 : okS (qT 32 ++ ⟨#[]⟩) = true ∧ oneF (qT 32 ++ ⟨#[]⟩) = qE0 32 := ⟨by kernel_rfl, by kernel_rfl⟩
theorem qt0_33 : okS (qT 33 ++ ⟨#[]⟩) = true ∧ oneF (qT 33 ++ ⟨#[]⟩) = qE0 33 := ⟨by kernel_rfl, by kernel_rfl⟩
theorem qt0_34 : okS (qT 34 ++ ⟨#[]⟩) = true ∧ oneF (qT 34 ++ ⟨#[]⟩) = qE0 34 := ⟨by kernel_rfl, by kernel_rfl⟩
theorem qt0_35 : okS (qT 35 ++ ⟨#[]⟩) = true ∧ oneF (qT 35 ++ ⟨#[]⟩) = qE0 35 := ⟨by kernel_rfl, by kernel_rfl⟩
theorem qt0_36 : okS (qT 36 ++ ⟨#[]⟩) = true ∧ oneF (qT 36 ++ ⟨#[]⟩) = qE0 36 := ⟨by kernel_rfl, by kernel_rfl⟩
theorem qt0_37 : okS (qT 37 ++ ⟨#[]⟩) = true ∧ oneF (qT 37 ++ ⟨#[]⟩) = qE0 37 := ⟨by kernel_rfl, by kernel_rfl⟩
theorem qt0_38 : okS (qT 38 ++ ⟨#[]⟩) = true ∧ oneF (qT 38 ++ ⟨#[]⟩) = qE0 38 := ⟨by kernel_rfl, by kernel_rfl⟩
theorem qt0_39 : okS (qT 39 ++ ⟨#[]⟩) = true ∧ oneF (qT 39 ++ ⟨#[]⟩) = qE0 39 := ⟨by kernel_rfl, by kernel_rfl⟩
theorem qt0_40 : okS (qT 40 ++ ⟨#[]⟩) = true ∧ oneF (qT 40 ++ ⟨#[]⟩) = qE0 40 := ⟨by kernel_rfl, by kernel_rfl⟩
theorem qt0 : ∀ n : Nat, n ≤ 40 → okS (qT n ++ ⟨#[]⟩) = true ∧ oneF (qT n ++ ⟨#[]⟩) = qE0 n
  | 0, _ => qt0_0
  | 1, _ => qt0_1
  | 2, _ => qt0_2
  | 3, _ => qt0_3
  | 4, _ => qt0_4
  | 5, _ => qt0_5
  | 6, _ => qt0_6
  | 7, _ => qt0_7
  | 8, _ => qt0_8
  | 9, _ => qt0_9
  | 10, _ => qt0_10
  | 11, _ => qt0_11
  | 12, _ => qt0_12
  | 13, _ => qt0_13
  | 14, _ => qt0_14
  | 15, _ => qt0_15
  | 16, _ => qt0_16
  | 17, _ => qt0_17
  | 18, _ => qt0_18
  | 19, _ => qt0_19
  | 20, _ => qt0_20
  | 21, _ => qt0_21
  | 22, _ => qt0_22
  | 23, _ => qt0_23
  | 24, _ => qt0_24
  | 25, _ => qt0_25
  | 26, _ => qt0_26
  | 27, _ => qt0_27
  | 28, _ => qt0_28
  | 29, _ => qt0_29
  | 30, _ => qt0_30
  | 31, _ => qt0_31
  | 32, _ => qt0_32
  | 33, _ => qt0_33
  | 34, _ => qt0_34
  | 35, _ => qt0_35
  | 36, _ => qt0_36
  | 37, _ => qt0_37
  | 38, _ => qt0_38
  | 39, _ => qt0_39
  | 40, _ => qt0_40
  | _ + 41, h => absurd h (by omega)
end Go.Proofs.YtllmagfmbglefaaDoor
