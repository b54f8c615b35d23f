import Derived.Test.YtllmagfmbglefaaDoorP9
/- Equality of pairs and of items. -/
namespace Go.Proofs.YtllmagfmbglefaaDoor
open Go Go.RowKit
set_option maxRecDepth 20000

def eqPr (c d : Pr) : Bool := decide (c.name = d.name) && (decide (c.n = d.n) && (decide (c.rev = d.rev) && decide (c.auto = d.auto)))
def prV (c : Pr) : Value := .agg #[.string c.name, .int .i64 c.n, .bool c.rev, .bool c.auto]
def eqIt (c d : It) : Bool := decide (c.kind = d.kind) && (decide (c.text = d.text) && (decide (c.sep = d.sep) && decide (c.style = d.style)))
def itV (c : It) : Value := .agg #[.int .i64 c.kind, .string c.text, .string c.sep, .string c.style]
section
variable {o : Oper} {M : List AB} {ρ : Operand → AV}
variable {ops : Array Oper} {N : Nat} {K : AS → Prop} {r : List Oper} {fo fo' : Option (List Nat)} {F : List (Nat × AV)} {dt : Tmp}
end
end Go.Proofs.YtllmagfmbglefaaDoor

/- fleuronalike and fleuronref12: Round, Texts, SamePairs, SameStyle of a thing and itself; Pairs, Style. -/
namespace Go.Proofs.YtllmagfmbglefaaDoor
open Go Go.RowKit
set_option maxRecDepth 20000

theorem round_eq (k n : Int) (hn : 0 < n) : (k.tmod n + n).tmod n = k % n := by
  have h1 := Int.tmod_lt_of_pos k hn
  have h2 := Int.lt_tmod_of_pos k hn
  rw [Int.tmod_eq_emod_of_nonneg (by omega), Int.add_emod_right, Int.tmod_eq_emod]
  split
  · simp
  · rw [Int.sub_emod, Int.emod_emod_of_dvd _ (Int.dvd_refl n)]
    have : ((n.natAbs : Int)) % n = 0 := by rw [Int.natAbs_of_nonneg (by omega)]; exact Int.emod_self
    rw [this]; simp
theorem vj (k n : Int) (hn0 : 0 < n) (hn : n ≤ 4611686018427387904) : uV Tryd.prog 11 [.val (.int .i64 k), .val (.int .i64 n)] (.val (.int .i64 (k % n))) := by
  refine u1 Tryd.func11 Tryd.ntmps11 rfl rfl rfl fun S w => ?_
  have h1 := Int.tmod_lt_of_pos k hn0
  have h2 := Int.lt_tmod_of_pos k hn0
  have h3 := round_eq k n hn0
  repeat (first | refine uf ?_ | refine uc ?_ | refine ud ?_ | refine un ?_ | refine ug ?_ | (refine uk ?_; first | refine ul tab_ok rfl rfl rfl rfl (by first | exact trivial | omega | exact nl rfl) rfl ?_ | refine r_rem rfl rfl rfl rfl rfl rfl (by omega) rfl ?_) | refine vh (by simp) rfl rfl rfl ?_)
  generalize k.tmod n = t at h1 h2 h3 ⊢
  exact Sub.of_eq (by rw [← h3, Int.tmod_eq_emod_of_nonneg (by omega)])
theorem texts_self (a : List ByteArray) (ha : a.length ≤ 1099511627776) : uV Tryd.prog 16 [.sl 1 (a.map sF), .sl 1 (a.map sF)] (.val (.bool true)) := by
  refine u1 Tryd.func16 Tryd.ntmps16 rfl rfl rfl fun S w => ?_
  have hla : (a.map sF).length = a.length := List.length_map _
  repeat (first | refine uf ?_ | refine uc ?_ | refine ud ?_ | refine ug ?_ | (refine uk ?_; first | refine vf tab_ok rfl rfl rfl rfl rfl rfl rfl ?_ | refine ul tab_ok rfl rfl rfl rfl (by first | exact trivial | omega | exact nl rfl) rfl ?_))
  refine xg rfl (fun hne => absurd rfl hne) (fun hl => ?_)
  repeat (first | refine uf ?_ | refine uc ?_ | refine uw ?_ | refine ud ?_ | refine uq ?_ | refine ug ?_ | (refine uk ?_; first | refine ul tab_ok rfl rfl rfl rfl (by first | exact trivial | omega | exact nl rfl) rfl ?_))
  refine vk (σ := {i : Nat // i ≤ a.length}) (fun _ => []) (fun x => [(0, .sl 1 (a.map sF)), (1, .sl 1 (a.map sF)), (5, .val (.int .i64 x.1))]) (fun x => a.length - x.1) ⟨0, Nat.zero_le _⟩ (vg rfl (by repeat' first | exact trivial | exact Sub.refl _ | exact rfl | apply And.intro)) ?_
  rintro ⟨i, hi⟩
  dsimp only
  repeat (first | refine uf ?_ | refine uc ?_ | refine ud ?_ | refine ug ?_ | (refine uk ?_; first | refine vf tab_ok rfl rfl rfl rfl rfl rfl rfl ?_ | refine ul tab_ok rfl rfl rfl rfl (by first | exact trivial | omega | exact nl rfl) rfl ?_))
  refine uz rfl (fun hlt => ?_) (fun hge => ?_)
  · have hlt : i < a.length := by omega
    repeat (first | refine uf ?_ | refine uc ?_ | refine uw ?_ | refine vm vb (by kernel_rfl) ?_ | refine uq ?_ | refine uQ ?_ | (refine uk ?_; first | refine ul tab_ok rfl rfl rfl rfl (by first | exact trivial | omega | exact nl rfl) rfl ?_ | refine wk tab_ok rfl rfl rfl rfl rfl rfl rfl (by first | exact ⟨by omega, by omega⟩ | (simp; omega)) rfl rfl ?_))
    refine xg rfl (fun hne => absurd rfl hne) (fun he => ?_)
    repeat (first | refine uc ?_ | refine ud ?_ | refine uq ?_ | refine ug ?_ | (refine uk ?_; first | refine ul tab_ok rfl rfl rfl rfl (by first | exact trivial | omega | exact nl rfl) rfl ?_))
    exact ⟨⟨i + 1, hlt⟩, by dsimp only; omega, vg rfl (by repeat' first | exact trivial | exact Sub.refl _ | exact rfl | apply And.intro)⟩
  · repeat (first | refine uf ?_ | refine uc ?_ | refine ud ?_ | refine un ?_ | refine uP ?_ | refine ug ?_ | (refine uk ?_; first | refine ul tab_ok rfl rfl rfl rfl (by first | exact trivial | omega | exact nl rfl) rfl ?_) | refine vh (by simp) rfl rfl rfl ?_)
    exact Sub.refl _
/-- No list of a style is too long. -/
structure styL (s : Sty) : Prop where
  c : s.cont.length ≤ 1099511627776
  q : s.quotes.length ≤ 1099511627776
  r : s.reset.length ≤ 1099511627776
  a : s.add.length ≤ 1099511627776
  e : s.set.length ≤ 1099511627776
def prsB (l : List Pr) : Bool := (l.take 50).all (fun p => !decide (100 < p.name.size)) && decide (l.length ≤ 40)
end Go.Proofs.YtllmagfmbglefaaDoor
