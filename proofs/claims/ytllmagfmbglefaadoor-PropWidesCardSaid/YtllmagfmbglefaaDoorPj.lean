/- PropWides: what is read, by reckoning; the walk. -/
import Derived.Test.YtllmagfmbglefaaDoorPi
namespace Go.Proofs.YtllmagfmbglefaaDoor
open Go Go.RowKit
set_option maxRecDepth 20000

theorem bs_sz8 : ∀ s ∈ namL, s.size ≤ 17 := by decide
def wd0 : ByteArray := ⟨#[73, 110, 72, 101, 114, 105, 116]⟩
theorem wt000 : okS (colS ++ ⟨#[58, 32]⟩ ++ ⟨#[73, 110, 72, 101, 114, 105, 116]⟩) = true ∧ oneF (colS ++ ⟨#[58, 32]⟩ ++ ⟨#[73, 110, 72, 101, 114, 105, 116]⟩) = (⟨colS, 1, zS⟩, 0) := ⟨by kernel_rfl, by kernel_rfl⟩
theorem wt001 : okS (conS ++ ⟨#[58, 32]⟩ ++ ⟨#[73, 110, 72, 101, 114, 105, 116]⟩) = true ∧ oneF (conS ++ ⟨#[58, 32]⟩ ++ ⟨#[73, 110, 72, 101, 114, 105, 116]⟩) = (⟨conS, 1, zS⟩, 0) := ⟨by kernel_rfl, by kernel_rfl⟩
theorem wt002 : okS (incS ++ ⟨#[58, 32]⟩ ++ ⟨#[73, 110, 72, 101, 114, 105, 116]⟩) = true ∧ oneF (incS ++ ⟨#[58, 32]⟩ ++ ⟨#[73, 110, 72, 101, 114, 105, 116]⟩) = (⟨incS, 1, zS⟩, 0) := ⟨by kernel_rfl, by kernel_rfl⟩
theorem wt003 : okS (rstS ++ ⟨#[58, 32]⟩ ++ ⟨#[73, 110, 72, 101, 114, 105, 116]⟩) = true ∧ oneF (rstS ++ ⟨#[58, 32]⟩ ++ ⟨#[73, 110, 72, 101, 114, 105, 116]⟩) = (⟨rstS, 1, zS⟩, 0) := ⟨by kernel_rfl, by kernel_rfl⟩
theorem wt004 : okS (setS ++ ⟨#[58, 32]⟩ ++ ⟨#[73, 110, 72, 101, 114, 105, 116]⟩) = true ∧ oneF (setS ++ ⟨#[58, 32]⟩ ++ ⟨#[73, 110, 72, 101, 114, 105, 116]⟩) = (⟨setS, 1, zS⟩, 0) := ⟨by kernel_rfl, by kernel_rfl⟩
theorem wt005 : okS (dspS ++ ⟨#[58, 32]⟩ ++ ⟨#[73, 110, 72, 101, 114, 105, 116]⟩) = true ∧ oneF (dspS ++ ⟨#[58, 32]⟩ ++ ⟨#[73, 110, 72, 101, 114, 105, 116]⟩) = (⟨dspS, 1, zS⟩, 0) := ⟨by kernel_rfl, by kernel_rfl⟩
theorem wt006 : okS (lstS ++ ⟨#[58, 32]⟩ ++ ⟨#[73, 110, 72, 101, 114, 105, 116]⟩) = true ∧ oneF (lstS ++ ⟨#[58, 32]⟩ ++ ⟨#[73, 110, 72, 101, 114, 105, 116]⟩) = (⟨lstS, 1, zS⟩, 0) := ⟨by kernel_rfl, by kernel_rfl⟩
theorem wt007 : okS (quoS ++ ⟨#[58, 32]⟩ ++ ⟨#[73, 110, 72, 101, 114, 105, 116]⟩) = true ∧ oneF (quoS ++ ⟨#[58, 32]⟩ ++ ⟨#[73, 110, 72, 101, 114, 105, 116]⟩) = (⟨quoS, 1, zS⟩, 0) := ⟨by kernel_rfl, by kernel_rfl⟩
theorem wt00 : ∀ x ∈ namL, okS (x ++ ⟨#[58, 32]⟩ ++ ⟨#[73, 110, 72, 101, 114, 105, 116]⟩) = true ∧ oneF (x ++ ⟨#[58, 32]⟩ ++ ⟨#[73, 110, 72, 101, 114, 105, 116]⟩) = (⟨x, 1, zS⟩, 0) := by
  intro x hx
  simp only [namL, List.mem_cons, List.not_mem_nil, or_false] at hx
  rcases hx with rfl | rfl | rfl | rfl | rfl | rfl | rfl | rfl
  · exact wt000
  · exact wt001
  · exact wt002
  · exact wt003
  · exact wt004
  · exact wt005
  · exact wt006
  · exact wt007
theorem wt010 : okS (colS ++ ⟨#[58, 32]⟩ ++ ⟨#[73, 110, 72, 101, 114, 105, 116]⟩ ++ ⟨#[32, 39, 120, 39]⟩) = true ∧ oneF (colS ++ ⟨#[58, 32]⟩ ++ ⟨#[73, 110, 72, 101, 114, 105, 116]⟩ ++ ⟨#[32, 39, 120, 39]⟩) = (zV, 2) := ⟨by kernel_rfl, by kernel_rfl⟩
theorem wt011 : okS (conS ++ ⟨#[58, 32]⟩ ++ ⟨#[73, 110, 72, 101, 114, 105, 116]⟩ ++ ⟨#[32, 39, 120, 39]⟩) = true ∧ oneF (conS ++ ⟨#[58, 32]⟩ ++ ⟨#[73, 110, 72, 101, 114, 105, 116]⟩ ++ ⟨#[32, 39, 120, 39]⟩) = (zV, 2) := ⟨by kernel_rfl, by kernel_rfl⟩
theorem wt012 : okS (incS ++ ⟨#[58, 32]⟩ ++ ⟨#[73, 110, 72, 101, 114, 105, 116]⟩ ++ ⟨#[32, 39, 120, 39]⟩) = true ∧ oneF (incS ++ ⟨#[58, 32]⟩ ++ ⟨#[73, 110, 72, 101, 114, 105, 116]⟩ ++ ⟨#[32, 39, 120, 39]⟩) = (zV, 2) := ⟨by kernel_rfl, by kernel_rfl⟩
theorem wt013 : okS (rstS ++ ⟨#[58, 32]⟩ ++ ⟨#[73, 110, 72, 101, 114, 105, 116]⟩ ++ ⟨#[32, 39, 120, 39]⟩) = true ∧ oneF (rstS ++ ⟨#[58, 32]⟩ ++ ⟨#[73, 110, 72, 101, 114, 105, 116]⟩ ++ ⟨#[32, 39, 120, 39]⟩) = (zV, 2) := ⟨by kernel_rfl, by kernel_rfl⟩
theorem wt014 : okS (setS ++ ⟨#[58, 32]⟩ ++ ⟨#[73, 110, 72, 101, 114, 105, 116]⟩ ++ ⟨#[32, 39, 120, 39]⟩) = true ∧ oneF (setS ++ ⟨#[58, 32]⟩ ++ ⟨#[73, 110, 72, 101, 114, 105, 116]⟩ ++ ⟨#[32, 39, 120, 39]⟩) = (zV, 2) := ⟨by kernel_rfl, by kernel_rfl⟩
theorem wt015 : okS (dspS ++ ⟨#[58, 32]⟩ ++ ⟨#[73, 110, 72, 101, 114, 105, 116]⟩ ++ ⟨#[32, 39, 120, 39]⟩) = true ∧ oneF (dspS ++ ⟨#[58, 32]⟩ ++ ⟨#[73, 110, 72, 101, 114, 105, 116]⟩ ++ ⟨#[32, 39, 120, 39]⟩) = (zV, 2) := ⟨by kernel_rfl, by kernel_rfl⟩
theorem wt016 : okS (lstS ++ ⟨#[58, 32]⟩ ++ ⟨#[73, 110, 72, 101, 114, 105, 116]⟩ ++ ⟨#[32, 39, 120, 39]⟩) = true ∧ oneF (lstS ++ ⟨#[58, 32]⟩ ++ ⟨#[73, 110, 72, 101, 114, 105, 116]⟩ ++ ⟨#[32, 39, 120, 39]⟩) = (zV, 2) := ⟨by kernel_rfl, by kernel_rfl⟩
theorem wt017 : okS (quoS ++ ⟨#[58, 32]⟩ ++ ⟨#[73, 110, 72, 101, 114, 105, 116]⟩ ++ ⟨#[32, 39, 120, 39]⟩) = true ∧ oneF (quoS ++ ⟨#[58, 32]⟩ ++ ⟨#[73, 110, 72, 101, 114, 105, 116]⟩ ++ ⟨#[32, 39, 120, 39]⟩) = (zV, 2) := ⟨by kernel_rfl, by kernel_rfl⟩
theorem wt01 : ∀ x ∈ namL, okS (x ++ ⟨#[58, 32]⟩ ++ ⟨#[73, 110, 72, 101, 114, 105, 116]⟩ ++ ⟨#[32, 39, 120, 39]⟩) = true ∧ oneF (x ++ ⟨#[58, 32]⟩ ++ ⟨#[73, 110, 72, 101, 114, 105, 116]⟩ ++ ⟨#[32, 39, 120, 39]⟩) = (zV, 2) := by
  intro x hx
  simp only [namL, List.mem_cons, List.not_mem_nil, or_false] at hx
  rcases hx with rfl | rfl | rfl | rfl | rfl | rfl | rfl | rfl
  · exact wt010
  · exact wt011
  · exact wt012
  · exact wt013
  · exact wt014
  · exact wt015
  · exact wt016
  · exact wt017
def wd1 : ByteArray := ⟨#[73, 78, 73, 84, 73, 65, 76]⟩
theorem wt100 : okS (colS ++ ⟨#[58, 32]⟩ ++ ⟨#[73, 78, 73, 84, 73, 65, 76]⟩) = true ∧ oneF (colS ++ ⟨#[58, 32]⟩ ++ ⟨#[73, 78, 73, 84, 73, 65, 76]⟩) = (⟨colS, 2, zS⟩, 0) := ⟨by kernel_rfl, by kernel_rfl⟩
theorem wt101 : okS (conS ++ ⟨#[58, 32]⟩ ++ ⟨#[73, 78, 73, 84, 73, 65, 76]⟩) = true ∧ oneF (conS ++ ⟨#[58, 32]⟩ ++ ⟨#[73, 78, 73, 84, 73, 65, 76]⟩) = (⟨conS, 2, zS⟩, 0) := ⟨by kernel_rfl, by kernel_rfl⟩
theorem wt102 : okS (incS ++ ⟨#[58, 32]⟩ ++ ⟨#[73, 78, 73, 84, 73, 65, 76]⟩) = true ∧ oneF (incS ++ ⟨#[58, 32]⟩ ++ ⟨#[73, 78, 73, 84, 73, 65, 76]⟩) = (⟨incS, 2, zS⟩, 0) := ⟨by kernel_rfl, by kernel_rfl⟩
theorem wt103 : okS (rstS ++ ⟨#[58, 32]⟩ ++ ⟨#[73, 78, 73, 84, 73, 65, 76]⟩) = true ∧ oneF (rstS ++ ⟨#[58, 32]⟩ ++ ⟨#[73, 78, 73, 84, 73, 65, 76]⟩) = (⟨rstS, 2, zS⟩, 0) := ⟨by kernel_rfl, by kernel_rfl⟩
theorem wt104 : okS (setS ++ ⟨#[58, 32]⟩ ++ ⟨#[73, 78, 73, 84, 73, 65, 76]⟩) = true ∧ oneF (setS ++ ⟨#[58, 32]⟩ ++ ⟨#[73, 78, 73, 84, 73, 65, 76]⟩) = (⟨setS, 2, zS⟩, 0) := ⟨by kernel_rfl, by kernel_rfl⟩
theorem wt105 : okS (dspS ++ ⟨#[58, 32]⟩ ++ ⟨#[73, 78, 73, 84, 73, 65, 76]⟩) = true ∧ oneF (dspS ++ ⟨#[58, 32]⟩ ++ ⟨#[73, 78, 73, 84, 73, 65, 76]⟩) = (⟨dspS, 2, zS⟩, 0) := ⟨by kernel_rfl, by kernel_rfl⟩
theorem wt106 : okS (lstS ++ ⟨#[58, 32]⟩ ++ ⟨#[73, 78, 73, 84, 73, 65, 76]⟩) = true ∧ oneF (lstS ++ ⟨#[58, 32]⟩ ++ ⟨#[73, 78, 73, 84, 73, 65, 76]⟩) = (⟨lstS, 2, zS⟩, 0) := ⟨by kernel_rfl, by kernel_rfl⟩
theorem wt107 : okS (quoS ++ ⟨#[58, 32]⟩ ++ ⟨#[73, 78, 73, 84, 73, 65, 76]⟩) = true ∧ oneF (quoS ++ ⟨#[58, 32]⟩ ++ ⟨#[73, 78, 73, 84, 73, 65, 76]⟩) = (⟨quoS, 2, zS⟩, 0) := ⟨by kernel_rfl, by kernel_rfl⟩
theorem wt10 : ∀ x ∈ namL, okS (x ++ ⟨#[58, 32]⟩ ++ ⟨#[73, 78, 73, 84, 73, 65, 76]⟩) = true ∧ oneF (x ++ ⟨#[58, 32]⟩ ++ ⟨#[73, 78, 73, 84, 73, 65, 76]⟩) = (⟨x, 2, zS⟩, 0) := by
  intro x hx
  simp only [namL, List.mem_cons, List.not_mem_nil, or_false] at hx
  rcases hx with rfl | rfl | rfl | rfl | rfl | rfl | rfl | rfl
  · exact wt100
  · exact wt101
  · exact wt102
  · exact wt103
  · exact wt104
  · exact wt105
  · exact wt106
  · exact wt107
theorem wt110 : okS (colS ++ ⟨#[58, 32]⟩ ++ ⟨#[73, 78, 73, 84, 73, 65, 76]⟩ ++ ⟨#[32, 39, 120, 39]⟩) = true ∧ oneF (colS ++ ⟨#[58, 32]⟩ ++ ⟨#[73, 78, 73, 84, 73, 65, 76]⟩ ++ ⟨#[32, 39, 120, 39]⟩) = (zV, 2) := ⟨by kernel_rfl, by kernel_rfl⟩
theorem wt111 : okS (conS ++ ⟨#[58, 32]⟩ ++ ⟨#[73, 78, 73, 84, 73, 65, 76]⟩ ++ ⟨#[32, 39, 120, 39]⟩) = true ∧ oneF (conS ++ ⟨#[58, 32]⟩ ++ ⟨#[73, 78, 73, 84, 73, 65, 76]⟩ ++ ⟨#[32, 39, 120, 39]⟩) = (zV, 2) := ⟨by kernel_rfl, by kernel_rfl⟩
theorem wt112 : okS (incS ++ ⟨#[58, 32]⟩ ++ ⟨#[73, 78, 73, 84, 73, 65, 76]⟩ ++ ⟨#[32, 39, 120, 39]⟩) = true ∧ oneF (incS ++ ⟨#[58, 32]⟩ ++ ⟨#[73, 78, 73, 84, 73, 65, 76]⟩ ++ ⟨#[32, 39, 120, 39]⟩) = (zV, 2) := ⟨by kernel_rfl, by kernel_rfl⟩
theorem wt113 : okS (rstS ++ ⟨#[58, 32]⟩ ++ ⟨#[73, 78, 73, 84, 73, 65, 76]⟩ ++ ⟨#[32, 39, 120, 39]⟩) = true ∧ oneF (rstS ++ ⟨#[58, 32]⟩ ++ ⟨#[73, 78, 73, 84, 73, 65, 76]⟩ ++ ⟨#[32, 39, 120, 39]⟩) = (zV, 2) := ⟨by kernel_rfl, by kernel_rfl⟩
theorem wt114 : okS (setS ++ ⟨#[58, 32]⟩ ++ ⟨#[73, 78, 73, 84, 73, 65, 76]⟩ ++ ⟨#[32, 39, 120, 39]⟩) = true ∧ oneF (setS ++ ⟨#[58, 32]⟩ ++ ⟨#[73, 78, 73, 84, 73, 65, 76]⟩ ++ ⟨#[32, 39, 120, 39]⟩) = (zV, 2) := ⟨by kernel_rfl, by kernel_rfl⟩
theorem wt115 : okS (dspS ++ ⟨#[58, 32]⟩ ++ ⟨#[73, 78, 73, 84, 73, 65, 76]⟩ ++ ⟨#[32, 39, 120, 39]⟩) = true ∧ oneF (dspS ++ ⟨#[58, 32]⟩ ++ ⟨#[73, 78, 73, 84, 73, 65, 76]⟩ ++ ⟨#[32, 39, 120, 39]⟩) = (zV, 2) := ⟨by kernel_rfl, by kernel_rfl⟩
theorem wt116 : okS (lstS ++ ⟨#[58, 32]⟩ ++ ⟨#[73, 78, 73, 84, 73, 65, 76]⟩ ++ ⟨#[32, 39, 120, 39]⟩) = true ∧ oneF (lstS ++ ⟨#[58, 32]⟩ ++ ⟨#[73, 78, 73, 84, 73, 65, 76]⟩ ++ ⟨#[32, 39, 120, 39]⟩) = (zV, 2) := ⟨by kernel_rfl, by kernel_rfl⟩
theorem wt117 : okS (quoS ++ ⟨#[58, 32]⟩ ++ ⟨#[73, 78, 73, 84, 73, 65, 76]⟩ ++ ⟨#[32, 39, 120, 39]⟩) = true ∧ oneF (quoS ++ ⟨#[58, 32]⟩ ++ ⟨#[73, 78, 73, 84, 73, 65, 76]⟩ ++ ⟨#[32, 39, 120, 39]⟩) = (zV, 2) := ⟨by kernel_rfl, by kernel_rfl⟩
theorem wt11 : ∀ x ∈ namL, okS (x ++ ⟨#[58, 32]⟩ ++ ⟨#[73, 78, 73, 84, 73, 65, 76]⟩ ++ ⟨#[32, 39, 120, 39]⟩) = true ∧ oneF (x ++ ⟨#[58, 32]⟩ ++ ⟨#[73, 78, 73, 84, 73, 65, 76]⟩ ++ ⟨#[32, 39, 120, 39]⟩) = (zV, 2) := by
  intro x hx
  simp only [namL, List.mem_cons, List.not_mem_nil, or_false] at hx
  rcases hx with rfl | rfl | rfl | rfl | rfl | rfl | rfl | rfl
  · exact wt110
  · exact wt111
  · exact wt112
  · exact wt113
  · exact wt114
  · exact wt115
  · exact wt116
  · exact wt117
def wd2 : ByteArray := ⟨#[117, 110, 115, 101, 116]⟩
theorem wt200 : okS (colS ++ ⟨#[58, 32]⟩ ++ ⟨#[117, 110, 115, 101, 116]⟩) = true ∧ oneF (colS ++ ⟨#[58, 32]⟩ ++ ⟨#[117, 110, 115, 101, 116]⟩) = (⟨colS, 3, zS⟩, 0) := ⟨by kernel_rfl, by kernel_rfl⟩
theorem wt201 : okS (conS ++ ⟨#[58, 32]⟩ ++ ⟨#[117, 110, 115, 101, 116]⟩) = true ∧ oneF (conS ++ ⟨#[58, 32]⟩ ++ ⟨#[117, 110, 115, 101, 116]⟩) = (⟨conS, 3, zS⟩, 0) := ⟨by kernel_rfl, by kernel_rfl⟩
theorem wt202 : okS (incS ++ ⟨#[58, 32]⟩ ++ ⟨#[117, 110, 115, 101, 116]⟩) = true ∧ oneF (incS ++ ⟨#[58, 32]⟩ ++ ⟨#[117, 110, 115, 101, 116]⟩) = (⟨incS, 3, zS⟩, 0) := ⟨by kernel_rfl, by kernel_rfl⟩
theorem wt203 : okS (rstS ++ ⟨#[58, 32]⟩ ++ ⟨#[117, 110, 115, 101, 116]⟩) = true ∧ oneF (rstS ++ ⟨#[58, 32]⟩ ++ ⟨#[117, 110, 115, 101, 116]⟩) = (⟨rstS, 3, zS⟩, 0) := ⟨by kernel_rfl, by kernel_rfl⟩
theorem wt204 : okS (setS ++ ⟨#[58, 32]⟩ ++ ⟨#[117, 110, 115, 101, 116]⟩) = true ∧ oneF (setS ++ ⟨#[58, 32]⟩ ++ ⟨#[117, 110, 115, 101, 116]⟩) = (⟨setS, 3, zS⟩, 0) := ⟨by kernel_rfl, by kernel_rfl⟩
theorem wt205 : okS (dspS ++ ⟨#[58, 32]⟩ ++ ⟨#[117, 110, 115, 101, 116]⟩) = true ∧ oneF (dspS ++ ⟨#[58, 32]⟩ ++ ⟨#[117, 110, 115, 101, 116]⟩) = (⟨dspS, 3, zS⟩, 0) := ⟨by kernel_rfl, by kernel_rfl⟩
theorem wt206 : okS (lstS ++ ⟨#[58, 32]⟩ ++ ⟨#[117, 110, 115, 101, 116]⟩) = true ∧ oneF (lstS ++ ⟨#[58, 32]⟩ ++ ⟨#[117, 110, 115, 101, 116]⟩) = (⟨lstS, 3, zS⟩, 0) := ⟨by kernel_rfl, by kernel_rfl⟩
theorem wt207 : okS (quoS ++ ⟨#[58, 32]⟩ ++ ⟨#[117, 110, 115, 101, 116]⟩) = true ∧ oneF (quoS ++ ⟨#[58, 32]⟩ ++ ⟨#[117, 110, 115, 101, 116]⟩) = (⟨quoS, 3, zS⟩, 0) := ⟨by kernel_rfl, by kernel_rfl⟩
theorem wt20 : ∀ x ∈ namL, okS (x ++ ⟨#[58, 32]⟩ ++ ⟨#[117, 110, 115, 101, 116]⟩) = true ∧ oneF (x ++ ⟨#[58, 32]⟩ ++ ⟨#[117, 110, 115, 101, 116]⟩) = (⟨x, 3, zS⟩, 0) := by
  intro x hx
  simp only [namL, List.mem_cons, List.not_mem_nil, or_false] at hx
  rcases hx with rfl | rfl | rfl | rfl | rfl | rfl | rfl | rfl
  · exact wt200
  · exact wt201
  · exact wt202
  · exact wt203
  · exact wt204
  · exact wt205
  · exact wt206
  · exact wt207
theorem wt210 : okS (colS ++ ⟨#[58, 32]⟩ ++ ⟨#[117, 110, 115, 101, 116]⟩ ++ ⟨#[32, 39, 120, 39]⟩) = true ∧ oneF (colS ++ ⟨#[58, 32]⟩ ++ ⟨#[117, 110, 115, 101, 116]⟩ ++ ⟨#[32, 39, 120, 39]⟩) = (zV, 2) := ⟨by kernel_rfl, by kernel_rfl⟩
theorem wt211 : okS (conS ++ ⟨#[58, 32]⟩ ++ ⟨#[117, 110, 115, 101, 116]⟩ ++ ⟨#[32, 39, 120, 39]⟩) = true ∧ oneF (conS ++ ⟨#[58, 32]⟩ ++ ⟨#[117, 110, 115, 101, 116]⟩ ++ ⟨#[32, 39, 120, 39]⟩) = (zV, 2) := ⟨by kernel_rfl, by kernel_rfl⟩
theorem wt212 : okS (incS ++ ⟨#[58, 32]⟩ ++ ⟨#[117, 110, 115, 101, 116]⟩ ++ ⟨#[32, 39, 120, 39]⟩) = true ∧ oneF (incS ++ ⟨#[58, 32]⟩ ++ ⟨#[117, 110, 115, 101, 116]⟩ ++ ⟨#[32, 39, 120, 39]⟩) = (zV, 2) := ⟨by kernel_rfl, by kernel_rfl⟩
theorem wt213 : okS (rstS ++ ⟨#[58, 32]⟩ ++ ⟨#[117, 110, 115, 101, 116]⟩ ++ ⟨#[32, 39, 120, 39]⟩) = true ∧ oneF (rstS ++ ⟨#[58, 32]⟩ ++ ⟨#[117, 110, 115, 101, 116]⟩ ++ ⟨#[32, 39, 120, 39]⟩) = (zV, 2) := ⟨by kernel_rfl, by kernel_rfl⟩
theorem wt214 : okS (setS ++ ⟨#[58, 32]⟩ ++ ⟨#[117, 110, 115, 101, 116]⟩ ++ ⟨#[32, 39, 120, 39]⟩) = true ∧ oneF (setS ++ ⟨#[58, 32]⟩ ++ ⟨#[117, 110, 115, 101, 116]⟩ ++ ⟨#[32, 39, 120, 39]⟩) = (zV, 2) := ⟨by kernel_rfl, by kernel_rfl⟩
theorem wt215 : okS (dspS ++ ⟨#[58, 32]⟩ ++ ⟨#[117, 110, 115, 101, 116]⟩ ++ ⟨#[32, 39, 120, 39]⟩) = true ∧ oneF (dspS ++ ⟨#[58, 32]⟩ ++ ⟨#[117, 110, 115, 101, 116]⟩ ++ ⟨#[32, 39, 120, 39]⟩) = (zV, 2) := ⟨by kernel_rfl, by kernel_rfl⟩
theorem wt216 : okS (lstS ++ ⟨#[58, 32]⟩ ++ ⟨#[117, 110, 115, 101, 116]⟩ ++ ⟨#[32, 39, 120, 39]⟩) = true ∧ oneF (lstS ++ ⟨#[58, 32]⟩ ++ ⟨#[117, 110, 115, 101, 116]⟩ ++ ⟨#[32, 39, 120, 39]⟩) = (zV, 2) := ⟨by kernel_rfl, by kernel_rfl⟩
theorem wt217 : okS (quoS ++ ⟨#[58, 32]⟩ ++ ⟨#[117, 110, 115, 101, 116]⟩ ++ ⟨#[32, 39, 120, 39]⟩) = true ∧ oneF (quoS ++ ⟨#[58, 32]⟩ ++ ⟨#[117, 110, 115, 101, 116]⟩ ++ ⟨#[32, 39, 120, 39]⟩) = (zV, 2) := ⟨by kernel_rfl, by kernel_rfl⟩
theorem wt21 : ∀ x ∈ namL, okS (x ++ ⟨#[58, 32]⟩ ++ ⟨#[117, 110, 115, 101, 116]⟩ ++ ⟨#[32, 39, 120, 39]⟩) = true ∧ oneF (x ++ ⟨#[58, 32]⟩ ++ ⟨#[117, 110, 115, 101, 116]⟩ ++ ⟨#[32, 39, 120, 39]⟩) = (zV, 2) := by
  intro x hx
  simp only [namL, List.mem_cons, List.not_mem_nil, or_false] at hx
  rcases hx with rfl | rfl | rfl | rfl | rfl | rfl | rfl | rfl
  · exact wt210
  · exact wt211
  · exact wt212
  · exact wt213
  · exact wt214
  · exact wt215
  · exact wt216
  · exact wt217
theorem styZ : styL zS := ⟨Nat.zero_le _, Nat.zero_le _, Nat.zero_le _, Nat.zero_le _, Nat.zero_le _⟩
set_option maxHeartbeats 8000000 in
theorem pwides_ok (k w : Int) (more : Bool) : PCalls Tryd.prog 3 [.val (.int .i64 k), .val (.int .i64 w), .val (.bool more)] (.val (.bool true)) := by
  refine p_start Tryd.func3 Tryd.ntmps3 rfl rfl rfl fun S w0 => ?_
  have hlen : namL.length = 8 := rfl
  have hlm : (namL.map sF).length = 8 := rfl
  repeat (first | refine awp_seq ?_ | refine a_region ?_ | refine r_done ?_ | (refine r_id ?_; first | refine r_ev tab_ok rfl rfl rfl rfl (by first | exact trivial | exact ⟨by omega, by omega⟩ | omega | exact ⟨by omega, by omega, by omega, by omega⟩ | exact Nat.le_of_ble_eq_true rfl) rfl ?_))
  refine r_call pnames_ok call10 rfl rfl trivial rfl rfl rfl rfl ?_
  repeat (first | refine awp_seq ?_ | refine thenA_normal ?_ | refine a_region ?_ | refine awp_skip ?_ | refine r_done ?_ | (refine r_id ?_; first | refine r_len tab_ok rfl rfl rfl rfl rfl rfl rfl ?_ | refine r_ev tab_ok rfl rfl rfl rfl (by first | exact trivial | exact ⟨by omega, by omega⟩ | omega | exact ⟨by omega, by omega, by omega, by omega⟩ | exact Nat.le_of_ble_eq_true rfl) rfl ?_) | refine awp_cond_f rfl ?_)
  refine r_call (round_ok k 8 (by decide) (by decide)) call11 rfl rfl ⟨Sub.refl _, Sub.refl _, trivial⟩ rfl rfl rfl rfl ?_
  obtain ⟨j, hj⟩ : ∃ j : Nat, k % 8 = j := ⟨(k % 8).toNat, by omega⟩
  have hj8 : j < 8 := by omega
  have hjl : j < namL.length := hj8
  rw [hj]
  repeat (first | refine awp_seq ?_ | refine a_region ?_ | refine r_done ?_ | (refine r_id ?_; first | refine r_ev tab_ok rfl rfl rfl rfl (by first | exact trivial | exact ⟨by omega, by omega⟩ | omega | exact ⟨by omega, by omega, by omega, by omega⟩ | exact Nat.le_of_ble_eq_true rfl) rfl ?_ | refine r_idx tab_ok rfl rfl rfl rfl rfl rfl rfl (by first | exact ⟨by omega, by omega⟩ | (simp; omega)) rfl rfl ?_))
  simp only [Int.toNat_natCast]
  have hmem : namL[j] ∈ namL := List.getElem_mem hjl
  obtain ⟨x, hx⟩ : ∃ x, x = namL[j] := ⟨_, rfl⟩
  rw [← hx] at hmem ⊢
  have hsz := bs_sz8 x hmem
  clear hx
  refine r_call (round_ok w 3 (by decide) (by decide)) call11 rfl rfl ⟨Sub.refl _, Sub.refl _, trivial⟩ rfl rfl rfl rfl ?_
  have h3 : w % 3 = 0 ∨ w % 3 = 1 ∨ w % 3 = 2 := by omega
  rcases h3 with h3 | h3 | h3
  · rw [h3]
    cases more with
    | false =>
      have hw := wt00 x hmem
      have ho := one_ok _ hw.1
      rw [hw.2] at ho
      replace ho : PCalls Tryd.prog 12 _ (.tup [vA ⟨x, 1, zS⟩, .val (.int .i64 0)]) := ho
      repeat (first | refine awp_seq ?_ | refine a_region ?_ | refine r_done ?_ | (refine r_id ?_; first | refine r_ev tab_ok rfl rfl rfl rfl (by first | exact trivial | exact ⟨by omega, by omega⟩ | omega | exact ⟨by omega, by omega, by omega, by omega⟩ | exact Nat.le_of_ble_eq_true rfl) rfl ?_))
      refine r_ev tab_ok rfl rfl rfl rfl (by show x.size + 2 ≤ _; omega) rfl ?_
      repeat (first | (refine r_id ?_; first | refine r_ev tab_ok rfl rfl rfl rfl (by first | exact trivial | exact ⟨by omega, by omega⟩ | omega | exact ⟨by omega, by omega, by omega, by omega⟩ | exact Nat.le_of_ble_eq_true rfl) rfl ?_ | refine r_idxd tab_ok rfl rfl rfl rfl rfl rfl rfl (by decide) rfl rfl rfl ?_ | refine r_built tab_ok rfl rfl rfl rfl rfl rfl rfl rfl rfl ?_))
      refine r_ev tab_ok rfl rfl rfl rfl (by rw [ByteArray.size_append]; show x.size + 2 + 7 ≤ _; omega) rfl ?_
      repeat (first | refine awp_seq ?_ | refine thenA_normal ?_ | refine a_region ?_ | refine awp_skip ?_ | refine r_done ?_ | (refine r_id ?_; first | refine r_ev tab_ok rfl rfl rfl rfl (by first | exact trivial | exact ⟨by omega, by omega⟩ | omega | exact ⟨by omega, by omega, by omega, by omega⟩ | exact Nat.le_of_ble_eq_true rfl) rfl ?_) | refine awp_cond_f rfl ?_)
      refine r_call ho call12 rfl rfl ⟨Sub.refl _, trivial⟩ rfl rfl rfl rfl ?_
      repeat (first | refine awp_seq ?_ | refine thenA_normal ?_ | refine a_region ?_ | refine awp_skip ?_ | refine r_done ?_ | (refine r_id ?_; first | refine r_ev tab_ok rfl rfl rfl rfl (by first | exact trivial | exact ⟨by omega, by omega⟩ | omega | exact ⟨by omega, by omega, by omega, by omega⟩ | exact Nat.le_of_ble_eq_true rfl) rfl ?_ | refine r_wr tab_ok rfl rfl rfl rfl rfl ?_ | refine r_st tab_ok rfl rfl rfl rfl ?_ | refine r_pick_t rfl rfl rfl rfl rfl rfl rfl ?_ | refine r_ev_on tab_ok rfl rfl rfl rfl rfl rfl (by first | exact trivial | exact ⟨by omega, by omega⟩ | omega) rfl ?_ | refine r_ld_on tab_ok rfl rfl rfl rfl rfl rfl rfl ?_) | refine awp_cond_f rfl ?_)
      rw [show decide ((⟨x, 1, zS⟩ : Val).name = x) = true from decide_eq_true rfl]
      repeat (first | (refine r_id ?_; first | refine r_ev tab_ok rfl rfl rfl rfl (by first | exact trivial | exact ⟨by omega, by omega⟩ | omega | exact ⟨by omega, by omega, by omega, by omega⟩ | exact Nat.le_of_ble_eq_true rfl) rfl ?_ | refine r_pick_t rfl rfl rfl rfl rfl rfl rfl ?_ | refine r_ev_on tab_ok rfl rfl rfl rfl rfl rfl (by first | exact trivial | exact ⟨by omega, by omega⟩ | omega) rfl ?_ | refine r_ld_on tab_ok rfl rfl rfl rfl rfl rfl rfl ?_ | refine r_build tab_ok rfl rfl rfl rfl rfl rfl ?_) | refine r_g rfl rfl rfl ?_)
      refine r_call (sstyle_self zS styZ) call14 rfl rfl ⟨Sub.refl _, Sub.agg (by repeat' first | exact trivial | exact Sub.refl _ | exact Sub.nil _ | refine Sub.agg ?_ | apply And.intro), trivial⟩ rfl rfl rfl rfl ?_
      repeat (first | (refine r_id ?_; first | refine r_ev tab_ok rfl rfl rfl rfl (by first | exact trivial | exact ⟨by omega, by omega⟩ | omega | exact ⟨by omega, by omega, by omega, by omega⟩ | exact Nat.le_of_ble_eq_true rfl) rfl ?_ | refine r_pick_t rfl rfl rfl rfl rfl rfl rfl ?_) | refine r_g rfl rfl rfl ?_)
      refine r_call awake_ok call13 rfl rfl trivial rfl rfl rfl rfl ?_
      repeat (first | refine thenA_normal ?_ | refine awp_ret ?_ | refine r_done ?_ | (refine r_id ?_; first | refine r_ev tab_ok rfl rfl rfl rfl (by first | exact trivial | exact ⟨by omega, by omega⟩ | omega | exact ⟨by omega, by omega, by omega, by omega⟩ | exact Nat.le_of_ble_eq_true rfl) rfl ?_ | refine r_pick_t rfl rfl rfl rfl rfl rfl rfl ?_) | refine ret1 (by first | exact .inl rfl | exact .inr rfl) rfl rfl rfl ?_)
      exact Sub.refl _
    | true =>
      have hw := wt01 x hmem
      have ho := one_ok _ hw.1
      rw [hw.2] at ho
      replace ho : PCalls Tryd.prog 12 _ (.tup [vA zV, .val (.int .i64 2)]) := ho
      repeat (first | refine awp_seq ?_ | refine a_region ?_ | refine r_done ?_ | (refine r_id ?_; first | refine r_ev tab_ok rfl rfl rfl rfl (by first | exact trivial | exact ⟨by omega, by omega⟩ | omega | exact ⟨by omega, by omega, by omega, by omega⟩ | exact Nat.le_of_ble_eq_true rfl) rfl ?_))
      refine r_ev tab_ok rfl rfl rfl rfl (by show x.size + 2 ≤ _; omega) rfl ?_
      repeat (first | (refine r_id ?_; first | refine r_ev tab_ok rfl rfl rfl rfl (by first | exact trivial | exact ⟨by omega, by omega⟩ | omega | exact ⟨by omega, by omega, by omega, by omega⟩ | exact Nat.le_of_ble_eq_true rfl) rfl ?_ | refine r_idxd tab_ok rfl rfl rfl rfl rfl rfl rfl (by decide) rfl rfl rfl ?_ | refine r_built tab_ok rfl rfl rfl rfl rfl rfl rfl rfl rfl ?_))
      refine r_ev tab_ok rfl rfl rfl rfl (by rw [ByteArray.size_append]; show x.size + 2 + 7 ≤ _; omega) rfl ?_
      repeat (first | refine awp_seq ?_ | refine thenA_normal ?_ | refine a_region ?_ | refine r_done ?_ | (refine r_id ?_; first | refine r_ev tab_ok rfl rfl rfl rfl (by first | exact trivial | exact ⟨by omega, by omega⟩ | omega | exact ⟨by omega, by omega, by omega, by omega⟩ | exact Nat.le_of_ble_eq_true rfl) rfl ?_) | refine awp_cond_t rfl ?_)
      refine r_ev tab_ok rfl rfl rfl rfl (by rw [ByteArray.size_append, ByteArray.size_append]; show x.size + 2 + 7 + 4 ≤ _; omega) rfl ?_
      repeat (first | refine awp_seq ?_ | refine a_region ?_ | refine r_done ?_ | (refine r_id ?_; first | refine r_ev tab_ok rfl rfl rfl rfl (by first | exact trivial | exact ⟨by omega, by omega⟩ | omega | exact ⟨by omega, by omega, by omega, by omega⟩ | exact Nat.le_of_ble_eq_true rfl) rfl ?_))
      refine r_call ho call12 rfl rfl ⟨Sub.refl _, trivial⟩ rfl rfl rfl rfl ?_
      repeat (first | refine awp_seq ?_ | refine thenA_normal ?_ | refine a_region ?_ | refine r_done ?_ | (refine r_id ?_; first | refine r_ev tab_ok rfl rfl rfl rfl (by first | exact trivial | exact ⟨by omega, by omega⟩ | omega | exact ⟨by omega, by omega, by omega, by omega⟩ | exact Nat.le_of_ble_eq_true rfl) rfl ?_ | refine r_wr tab_ok rfl rfl rfl rfl rfl ?_ | refine r_st tab_ok rfl rfl rfl rfl ?_ | refine r_pick_t rfl rfl rfl rfl rfl rfl rfl ?_ | refine r_ev_on tab_ok rfl rfl rfl rfl rfl rfl (by first | exact trivial | exact ⟨by omega, by omega⟩ | omega) rfl ?_ | refine r_ld_on tab_ok rfl rfl rfl rfl rfl rfl rfl ?_) | refine awp_cond_t rfl ?_ | refine r_g rfl rfl rfl ?_)
      refine r_call awake_ok call13 rfl rfl trivial rfl rfl rfl rfl ?_
      repeat (first | refine thenA_normal ?_ | refine awp_ret ?_ | refine thenA_ret ?_ | refine r_done ?_ | (refine r_id ?_; first | refine r_ev tab_ok rfl rfl rfl rfl (by first | exact trivial | exact ⟨by omega, by omega⟩ | omega | exact ⟨by omega, by omega, by omega, by omega⟩ | exact Nat.le_of_ble_eq_true rfl) rfl ?_ | refine r_pick_t rfl rfl rfl rfl rfl rfl rfl ?_) | refine ret1 (by first | exact .inl rfl | exact .inr rfl) rfl rfl rfl ?_)
      exact Sub.refl _
  · rw [h3]
    cases more with
    | false =>
      have hw := wt10 x hmem
      have ho := one_ok _ hw.1
      rw [hw.2] at ho
      replace ho : PCalls Tryd.prog 12 _ (.tup [vA ⟨x, 2, zS⟩, .val (.int .i64 0)]) := ho
      repeat (first | refine awp_seq ?_ | refine a_region ?_ | refine r_done ?_ | (refine r_id ?_; first | refine r_ev tab_ok rfl rfl rfl rfl (by first | exact trivial | exact ⟨by omega, by omega⟩ | omega | exact ⟨by omega, by omega, by omega, by omega⟩ | exact Nat.le_of_ble_eq_true rfl) rfl ?_))
      refine r_ev tab_ok rfl rfl rfl rfl (by show x.size + 2 ≤ _; omega) rfl ?_
      repeat (first | (refine r_id ?_; first | refine r_ev tab_ok rfl rfl rfl rfl (by first | exact trivial | exact ⟨by omega, by omega⟩ | omega | exact ⟨by omega, by omega, by omega, by omega⟩ | exact Nat.le_of_ble_eq_true rfl) rfl ?_ | refine r_idxd tab_ok rfl rfl rfl rfl rfl rfl rfl (by decide) rfl rfl rfl ?_ | refine r_built tab_ok rfl rfl rfl rfl rfl rfl rfl rfl rfl ?_))
      refine r_ev tab_ok rfl rfl rfl rfl (by rw [ByteArray.size_append]; show x.size + 2 + 7 ≤ _; omega) rfl ?_
      repeat (first | refine awp_seq ?_ | refine thenA_normal ?_ | refine a_region ?_ | refine awp_skip ?_ | refine r_done ?_ | (refine r_id ?_; first | refine r_ev tab_ok rfl rfl rfl rfl (by first | exact trivial | exact ⟨by omega, by omega⟩ | omega | exact ⟨by omega, by omega, by omega, by omega⟩ | exact Nat.le_of_ble_eq_true rfl) rfl ?_) | refine awp_cond_f rfl ?_)
      refine r_call ho call12 rfl rfl ⟨Sub.refl _, trivial⟩ rfl rfl rfl rfl ?_
      repeat (first | refine awp_seq ?_ | refine thenA_normal ?_ | refine a_region ?_ | refine awp_skip ?_ | refine r_done ?_ | (refine r_id ?_; first | refine r_ev tab_ok rfl rfl rfl rfl (by first | exact trivial | exact ⟨by omega, by omega⟩ | omega | exact ⟨by omega, by omega, by omega, by omega⟩ | exact Nat.le_of_ble_eq_true rfl) rfl ?_ | refine r_wr tab_ok rfl rfl rfl rfl rfl ?_ | refine r_st tab_ok rfl rfl rfl rfl ?_ | refine r_pick_t rfl rfl rfl rfl rfl rfl rfl ?_ | refine r_ev_on tab_ok rfl rfl rfl rfl rfl rfl (by first | exact trivial | exact ⟨by omega, by omega⟩ | omega) rfl ?_ | refine r_ld_on tab_ok rfl rfl rfl rfl rfl rfl rfl ?_) | refine awp_cond_f rfl ?_)
      rw [show decide ((⟨x, 2, zS⟩ : Val).name = x) = true from decide_eq_true rfl]
      repeat (first | (refine r_id ?_; first | refine r_ev tab_ok rfl rfl rfl rfl (by first | exact trivial | exact ⟨by omega, by omega⟩ | omega | exact ⟨by omega, by omega, by omega, by omega⟩ | exact Nat.le_of_ble_eq_true rfl) rfl ?_ | refine r_pick_t rfl rfl rfl rfl rfl rfl rfl ?_ | refine r_ev_on tab_ok rfl rfl rfl rfl rfl rfl (by first | exact trivial | exact ⟨by omega, by omega⟩ | omega) rfl ?_ | refine r_ld_on tab_ok rfl rfl rfl rfl rfl rfl rfl ?_ | refine r_build tab_ok rfl rfl rfl rfl rfl rfl ?_) | refine r_g rfl rfl rfl ?_)
      refine r_call (sstyle_self zS styZ) call14 rfl rfl ⟨Sub.refl _, Sub.agg (by repeat' first | exact trivial | exact Sub.refl _ | exact Sub.nil _ | refine Sub.agg ?_ | apply And.intro), trivial⟩ rfl rfl rfl rfl ?_
      repeat (first | (refine r_id ?_; first | refine r_ev tab_ok rfl rfl rfl rfl (by first | exact trivial | exact ⟨by omega, by omega⟩ | omega | exact ⟨by omega, by omega, by omega, by omega⟩ | exact Nat.le_of_ble_eq_true rfl) rfl ?_ | refine r_pick_t rfl rfl rfl rfl rfl rfl rfl ?_) | refine r_g rfl rfl rfl ?_)
      refine r_call awake_ok call13 rfl rfl trivial rfl rfl rfl rfl ?_
      repeat (first | refine thenA_normal ?_ | refine awp_ret ?_ | refine r_done ?_ | (refine r_id ?_; first | refine r_ev tab_ok rfl rfl rfl rfl (by first | exact trivial | exact ⟨by omega, by omega⟩ | omega | exact ⟨by omega, by omega, by omega, by omega⟩ | exact Nat.le_of_ble_eq_true rfl) rfl ?_ | refine r_pick_t rfl rfl rfl rfl rfl rfl rfl ?_) | refine ret1 (by first | exact .inl rfl | exact .inr rfl) rfl rfl rfl ?_)
      exact Sub.refl _
    | true =>
      have hw := wt11 x hmem
      have ho := one_ok _ hw.1
      rw [hw.2] at ho
      replace ho : PCalls Tryd.prog 12 _ (.tup [vA zV, .val (.int .i64 2)]) := ho
      repeat (first | refine awp_seq ?_ | refine a_region ?_ | refine r_done ?_ | (refine r_id ?_; first | refine r_ev tab_ok rfl rfl rfl rfl (by first | exact trivial | exact ⟨by omega, by omega⟩ | omega | exact ⟨by omega, by omega, by omega, by omega⟩ | exact Nat.le_of_ble_eq_true rfl) rfl ?_))
      refine r_ev tab_ok rfl rfl rfl rfl (by show x.size + 2 ≤ _; omega) rfl ?_
      repeat (first | (refine r_id ?_; first | refine r_ev tab_ok rfl rfl rfl rfl (by first | exact trivial | exact ⟨by omega, by omega⟩ | omega | exact ⟨by omega, by omega, by omega, by omega⟩ | exact Nat.le_of_ble_eq_true rfl) rfl ?_ | refine r_idxd tab_ok rfl rfl rfl rfl rfl rfl rfl (by decide) rfl rfl rfl ?_ | refine r_built tab_ok rfl rfl rfl rfl rfl rfl rfl rfl rfl ?_))
      refine r_ev tab_ok rfl rfl rfl rfl (by rw [ByteArray.size_append]; show x.size + 2 + 7 ≤ _; omega) rfl ?_
      repeat (first | refine awp_seq ?_ | refine thenA_normal ?_ | refine a_region ?_ | refine r_done ?_ | (refine r_id ?_; first | refine r_ev tab_ok rfl rfl rfl rfl (by first | exact trivial | exact ⟨by omega, by omega⟩ | omega | exact ⟨by omega, by omega, by omega, by omega⟩ | exact Nat.le_of_ble_eq_true rfl) rfl ?_) | refine awp_cond_t rfl ?_)
      refine r_ev tab_ok rfl rfl rfl rfl (by rw [ByteArray.size_append, ByteArray.size_append]; show x.size + 2 + 7 + 4 ≤ _; omega) rfl ?_
      repeat (first | refine awp_seq ?_ | refine a_region ?_ | refine r_done ?_ | (refine r_id ?_; first | refine r_ev tab_ok rfl rfl rfl rfl (by first | exact trivial | exact ⟨by omega, by omega⟩ | omega | exact ⟨by omega, by omega, by omega, by omega⟩ | exact Nat.le_of_ble_eq_true rfl) rfl ?_))
      refine r_call ho call12 rfl rfl ⟨Sub.refl _, trivial⟩ rfl rfl rfl rfl ?_
      repeat (first | refine awp_seq ?_ | refine thenA_normal ?_ | refine a_region ?_ | refine r_done ?_ | (refine r_id ?_; first | refine r_ev tab_ok rfl rfl rfl rfl (by first | exact trivial | exact ⟨by omega, by omega⟩ | omega | exact ⟨by omega, by omega, by omega, by omega⟩ | exact Nat.le_of_ble_eq_true rfl) rfl ?_ | refine r_wr tab_ok rfl rfl rfl rfl rfl ?_ | refine r_st tab_ok rfl rfl rfl rfl ?_ | refine r_pick_t rfl rfl rfl rfl rfl rfl rfl ?_ | refine r_ev_on tab_ok rfl rfl rfl rfl rfl rfl (by first | exact trivial | exact ⟨by omega, by omega⟩ | omega) rfl ?_ | refine r_ld_on tab_ok rfl rfl rfl rfl rfl rfl rfl ?_) | refine awp_cond_t rfl ?_ | refine r_g rfl rfl rfl ?_)
      refine r_call awake_ok call13 rfl rfl trivial rfl rfl rfl rfl ?_
      repeat (first | refine thenA_normal ?_ | refine awp_ret ?_ | refine thenA_ret ?_ | refine r_done ?_ | (refine r_id ?_; first | refine r_ev tab_ok rfl rfl rfl rfl (by first | exact trivial | exact ⟨by omega, by omega⟩ | omega | exact ⟨by omega, by omega, by omega, by omega⟩ | exact Nat.le_of_ble_eq_true rfl) rfl ?_ | refine r_pick_t rfl rfl rfl rfl rfl rfl rfl ?_) | refine ret1 (by first | exact .inl rfl | exact .inr rfl) rfl rfl rfl ?_)
      exact Sub.refl _
  · rw [h3]
    cases more with
    | false =>
      have hw := wt20 x hmem
      have ho := one_ok _ hw.1
      rw [hw.2] at ho
      replace ho : PCalls Tryd.prog 12 _ (.tup [vA ⟨x, 3, zS⟩, .val (.int .i64 0)]) := ho
      repeat (first | refine awp_seq ?_ | refine a_region ?_ | refine r_done ?_ | (refine r_id ?_; first | refine r_ev tab_ok rfl rfl rfl rfl (by first | exact trivial | exact ⟨by omega, by omega⟩ | omega | exact ⟨by omega, by omega, by omega, by omega⟩ | exact Nat.le_of_ble_eq_true rfl) rfl ?_))
      refine r_ev tab_ok rfl rfl rfl rfl (by show x.size + 2 ≤ _; omega) rfl ?_
      repeat (first | (refine r_id ?_; first | refine r_ev tab_ok rfl rfl rfl rfl (by first | exact trivial | exact ⟨by omega, by omega⟩ | omega | exact ⟨by omega, by omega, by omega, by omega⟩ | exact Nat.le_of_ble_eq_true rfl) rfl ?_ | refine r_idxd tab_ok rfl rfl rfl rfl rfl rfl rfl (by decide) rfl rfl rfl ?_ | refine r_built tab_ok rfl rfl rfl rfl rfl rfl rfl rfl rfl ?_))
      refine r_ev tab_ok rfl rfl rfl rfl (by rw [ByteArray.size_append]; show x.size + 2 + 5 ≤ _; omega) rfl ?_
      repeat (first | refine awp_seq ?_ | refine thenA_normal ?_ | refine a_region ?_ | refine awp_skip ?_ | refine r_done ?_ | (refine r_id ?_; first | refine r_ev tab_ok rfl rfl rfl rfl (by first | exact trivial | exact ⟨by omega, by omega⟩ | omega | exact ⟨by omega, by omega, by omega, by omega⟩ | exact Nat.le_of_ble_eq_true rfl) rfl ?_) | refine awp_cond_f rfl ?_)
      refine r_call ho call12 rfl rfl ⟨Sub.refl _, trivial⟩ rfl rfl rfl rfl ?_
      repeat (first | refine awp_seq ?_ | refine thenA_normal ?_ | refine a_region ?_ | refine awp_skip ?_ | refine r_done ?_ | (refine r_id ?_; first | refine r_ev tab_ok rfl rfl rfl rfl (by first | exact trivial | exact ⟨by omega, by omega⟩ | omega | exact ⟨by omega, by omega, by omega, by omega⟩ | exact Nat.le_of_ble_eq_true rfl) rfl ?_ | refine r_wr tab_ok rfl rfl rfl rfl rfl ?_ | refine r_st tab_ok rfl rfl rfl rfl ?_ | refine r_pick_t rfl rfl rfl rfl rfl rfl rfl ?_ | refine r_ev_on tab_ok rfl rfl rfl rfl rfl rfl (by first | exact trivial | exact ⟨by omega, by omega⟩ | omega) rfl ?_ | refine r_ld_on tab_ok rfl rfl rfl rfl rfl rfl rfl ?_) | refine awp_cond_f rfl ?_)
      rw [show decide ((⟨x, 3, zS⟩ : Val).name = x) = true from decide_eq_true rfl]
      repeat (first | (refine r_id ?_; first | refine r_ev tab_ok rfl rfl rfl rfl (by first | exact trivial | exact ⟨by omega, by omega⟩ | omega | exact ⟨by omega, by omega, by omega, by omega⟩ | exact Nat.le_of_ble_eq_true rfl) rfl ?_ | refine r_pick_t rfl rfl rfl rfl rfl rfl rfl ?_ | refine r_ev_on tab_ok rfl rfl rfl rfl rfl rfl (by first | exact trivial | exact ⟨by omega, by omega⟩ | omega) rfl ?_ | refine r_ld_on tab_ok rfl rfl rfl rfl rfl rfl rfl ?_ | refine r_build tab_ok rfl rfl rfl rfl rfl rfl ?_) | refine r_g rfl rfl rfl ?_)
      refine r_call (sstyle_self zS styZ) call14 rfl rfl ⟨Sub.refl _, Sub.agg (by repeat' first | exact trivial | exact Sub.refl _ | exact Sub.nil _ | refine Sub.agg ?_ | apply And.intro), trivial⟩ rfl rfl rfl rfl ?_
      repeat (first | (refine r_id ?_; first | refine r_ev tab_ok rfl rfl rfl rfl (by first | exact trivial | exact ⟨by omega, by omega⟩ | omega | exact ⟨by omega, by omega, by omega, by omega⟩ | exact Nat.le_of_ble_eq_true rfl) rfl ?_ | refine r_pick_t rfl rfl rfl rfl rfl rfl rfl ?_) | refine r_g rfl rfl rfl ?_)
      refine r_call awake_ok call13 rfl rfl trivial rfl rfl rfl rfl ?_
      repeat (first | refine thenA_normal ?_ | refine awp_ret ?_ | refine r_done ?_ | (refine r_id ?_; first | refine r_ev tab_ok rfl rfl rfl rfl (by first | exact trivial | exact ⟨by omega, by omega⟩ | omega | exact ⟨by omega, by omega, by omega, by omega⟩ | exact Nat.le_of_ble_eq_true rfl) rfl ?_ | refine r_pick_t rfl rfl rfl rfl rfl rfl rfl ?_) | refine ret1 (by first | exact .inl rfl | exact .inr rfl) rfl rfl rfl ?_)
      exact Sub.refl _
    | true =>
      have hw := wt21 x hmem
      have ho := one_ok _ hw.1
      rw [hw.2] at ho
      replace ho : PCalls Tryd.prog 12 _ (.tup [vA zV, .val (.int .i64 2)]) := ho
      repeat (first | refine awp_seq ?_ | refine a_region ?_ | refine r_done ?_ | (refine r_id ?_; first | refine r_ev tab_ok rfl rfl rfl rfl (by first | exact trivial | exact ⟨by omega, by omega⟩ | omega | exact ⟨by omega, by omega, by omega, by omega⟩ | exact Nat.le_of_ble_eq_true rfl) rfl ?_))
      refine r_ev tab_ok rfl rfl rfl rfl (by show x.size + 2 ≤ _; omega) rfl ?_
      repeat (first | (refine r_id ?_; first | refine r_ev tab_ok rfl rfl rfl rfl (by first | exact trivial | exact ⟨by omega, by omega⟩ | omega | exact ⟨by omega, by omega, by omega, by omega⟩ | exact Nat.le_of_ble_eq_true rfl) rfl ?_ | refine r_idxd tab_ok rfl rfl rfl rfl rfl rfl rfl (by decide) rfl rfl rfl ?_ | refine r_built tab_ok rfl rfl rfl rfl rfl rfl rfl rfl rfl ?_))
      refine r_ev tab_ok rfl rfl rfl rfl (by rw [ByteArray.size_append]; show x.size + 2 + 5 ≤ _; omega) rfl ?_
      repeat (first | refine awp_seq ?_ | refine thenA_normal ?_ | refine a_region ?_ | refine r_done ?_ | (refine r_id ?_; first | refine r_ev tab_ok rfl rfl rfl rfl (by first | exact trivial | exact ⟨by omega, by omega⟩ | omega | exact ⟨by omega, by omega, by omega, by omega⟩ | exact Nat.le_of_ble_eq_true rfl) rfl ?_) | refine awp_cond_t rfl ?_)
      refine r_ev tab_ok rfl rfl rfl rfl (by rw [ByteArray.size_append, ByteArray.size_append]; show x.size + 2 + 5 + 4 ≤ _; omega) rfl ?_
      repeat (first | refine awp_seq ?_ | refine a_region ?_ | refine r_done ?_ | (refine r_id ?_; first | refine r_ev tab_ok rfl rfl rfl rfl (by first | exact trivial | exact ⟨by omega, by omega⟩ | omega | exact ⟨by omega, by omega, by omega, by omega⟩ | exact Nat.le_of_ble_eq_true rfl) rfl ?_))
      refine r_call ho call12 rfl rfl ⟨Sub.refl _, trivial⟩ rfl rfl rfl rfl ?_
      repeat (first | refine awp_seq ?_ | refine thenA_normal ?_ | refine a_region ?_ | refine r_done ?_ | (refine r_id ?_; first | refine r_ev tab_ok rfl rfl rfl rfl (by first | exact trivial | exact ⟨by omega, by omega⟩ | omega | exact ⟨by omega, by omega, by omega, by omega⟩ | exact Nat.le_of_ble_eq_true rfl) rfl ?_ | refine r_wr tab_ok rfl rfl rfl rfl rfl ?_ | refine r_st tab_ok rfl rfl rfl rfl ?_ | refine r_pick_t rfl rfl rfl rfl rfl rfl rfl ?_ | refine r_ev_on tab_ok rfl rfl rfl rfl rfl rfl (by first | exact trivial | exact ⟨by omega, by omega⟩ | omega) rfl ?_ | refine r_ld_on tab_ok rfl rfl rfl rfl rfl rfl rfl ?_) | refine awp_cond_t rfl ?_ | refine r_g rfl rfl rfl ?_)
      refine r_call awake_ok call13 rfl rfl trivial rfl rfl rfl rfl ?_
      repeat (first | refine thenA_normal ?_ | refine awp_ret ?_ | refine thenA_ret ?_ | refine r_done ?_ | (refine r_id ?_; first | refine r_ev tab_ok rfl rfl rfl rfl (by first | exact trivial | exact ⟨by omega, by omega⟩ | omega | exact ⟨by omega, by omega, by omega, by omega⟩ | exact Nat.le_of_ble_eq_true rfl) rfl ?_ | refine r_pick_t rfl rfl rfl rfl rfl rfl rfl ?_) | refine ret1 (by first | exact .inl rfl | exact .inr rfl) rfl rfl rfl ?_)
      exact Sub.refl _
end Go.Proofs.YtllmagfmbglefaaDoor
