import Derived.Test.YtiolnmfaeenlmaaGreatDoorJa
/- The engine: the last part of an own row of words, cleared. -/
namespace Go.Proofs.YtiolnmfaeenlmaaGreatDoor
open Go Go.RowKit

def sfxV (j : Nat) : Nat → Option (Nat × Nat) → Nat → Value → Prop := fun k b n v => ∃ g c A, b = some (g, c) ∧ v = .slice A (n - j) (c - j) ∧ (j < n → A = some ⟨g, j * k, none⟩)
section
variable {P : Program} {o : Oper} {M M' : List AB} {ρ : Operand → AV} {out : AV} {tab : List (Nat × TE)}
end
end Go.Proofs.YtiolnmfaeenlmaaGreatDoor

/- The engine: pointers to data, held against nil. -/
namespace Go.Proofs.YtiolnmfaeenlmaaGreatDoor
open Go Go.RowKit

section
variable {P : Program} {o : Oper} {M M' : List AB} {ρ : Operand → AV} {out : AV} {tab : List (Nat × TE)}
end
section
variable {P : Program} {ops : Array Oper} {N : Nat} {K : AS → Prop} {o : Oper} {r : List Oper} {fo fo' : Option (List Nat)} {M M' : List AB} {F : List (Nat × AV)} {dt : Tmp} {tab : List (Nat × TE)} {out : AV}
end
theorem ret2ct {P : Program} {fn : Func} {r1 r2 x y : AV} {e : Exit} {M : List AB} {F : List (Nat × AV)} {t u : Tmp} {ty : TypeId} {te : TE} {i off e' : Nat} {cells : List AV} {tab : List (Nat × TE)} (ht : TyTab P tab) (he : e = .normal ∨ e = .ret) (hr : fn.results.toList = [.cell t ty, .tmp u]) (hte : tget tab ty = some te)
    (hp : look F t = .ptr i off) (hM : M[i]? = some (.box e' cells)) (hx : loadAV te (cells.drop off) = some x) (hy : nf (look F u) = some y) (hf : (x.free && y.free) = true) (h : Sub x r1) (k : Sub y r2) : retQ P fn (.tup [r1, r2]) e ⟨M, F⟩ := by
  rw [Bool.and_eq_true] at hf
  refine ⟨he, [x, y], by rw [hr]; exact .cons (.cell (ht.get hte) hp hM hx hf.1) (.cons (.tmp (by rw [nf_eq hy]; exact Sub.refl _) hf.2) .nil), ?_⟩
  rintro M β w imm v ⟨cs, h1, ⟨v1, r, e1, s1, v2, r', e2, s2, s3⟩⟩
  exact ⟨cs, h1, v1, r, e1, h _ _ _ _ _ s1, v2, r', e2, k _ _ _ _ _ s2, s3⟩
end Go.Proofs.YtiolnmfaeenlmaaGreatDoor

/- The engine: slices that are made, as own rows. -/
namespace Go.Proofs.YtiolnmfaeenlmaaGreatDoor
open Go Go.RowKit

section
variable {P : Program} {tab : List (Nat × TE)} {o : Oper} {M : List AB} {ρ : Operand → AV}
end
end Go.Proofs.YtiolnmfaeenlmaaGreatDoor
