/- RulesLimits: what the texts say (plain), and walked. -/
import Derived.Test.YtiolnmfaeenlmaaGreatDoorRl
import Derived.Test.YtiolnmfaeenlmaaGreatDoorr5
import Derived.Test.YtiolnmfaeenlmaaGreatDoorR0
namespace Go.Proofs.YtiolnmfaeenlmaaGreatDoor
open Go Go.RowKit
set_option maxRecDepth 20000

def uL : Bool → List UInt8
  | true => [64, 97, 59]
  | false => [97, 123, 125]
def uT : Bool → List Tk
  | true => [⟨3, ⟨#[97]⟩, 0, false, false, false⟩, ⟨17, ⟨#[]⟩, 0, false, false, false⟩]
  | false => [⟨1, ⟨#[97]⟩, 0, false, false, false⟩, ⟨19, ⟨#[123]⟩, 0, false, false, false⟩, ⟨20, ⟨#[125]⟩, 0, false, false, false⟩]
def uN : Bool → List Nd
  | true => [.mk ⟨3, ⟨#[97]⟩, 0, false, false, false⟩ [], .mk ⟨17, ⟨#[]⟩, 0, false, false, false⟩ []]
  | false => [.mk ⟨1, ⟨#[97]⟩, 0, false, false, false⟩ [], .mk ⟨19, ⟨#[123]⟩, 0, false, false, false⟩ []]
def uR : Bool → Rl
  | true => ⟨⟨#[97]⟩, [], false, []⟩
  | false => ⟨⟨#[]⟩, [.mk ⟨1, ⟨#[97]⟩, 0, false, false, false⟩ []], true, []⟩
def lmL (a : Bool) (n : Nat) : List UInt8 := (List.replicate n (uL a)).flatten
def lmT (a : Bool) (n : Nat) : List Tk := (List.replicate n (uT a)).flatten
def lmN (a : Bool) (n : Nat) : List Nd := (List.replicate n (uN a)).flatten
theorem lmL_snoc (a : Bool) (n : Nat) : lmL a (n + 1) = lmL a n ++ uL a := by rw [lmL, lmL, List.replicate_succ', List.flatten_append]; simp
theorem u_toks (a : Bool) (rest : List Int) : toksL ((uL a).map bI ++ rest) = uT a ++ toksL rest := by
  cases a
  · exact toks_lit 20 (by kernel_rfl) (by decide)
  · exact toks_lit 20 (by kernel_rfl) (by decide)
theorem lm_toks (a : Bool) : ∀ n, toksL ((lmL a n).map bI) = lmT a n
  | 0 => toksL_nil
  | n + 1 => by
    have e1 : lmL a (n + 1) = uL a ++ lmL a n := rfl
    have e2 : lmT a (n + 1) = uT a ++ lmT a n := rfl
    rw [e1, e2, List.map_append, u_toks, lm_toks a n]
theorem u_nds (a : Bool) (r : List Tk) : nodesT (uT a ++ r) = uN a ++ nodesT r := by
  cases a
  · refine (nodesT_leaf _ _ (by kernel_rfl)).trans (congrArg (Nd.mk ⟨1, ⟨#[97]⟩, 0, false, false, false⟩ [] :: ·) ?_)
    exact nodesT_open ⟨19, ⟨#[123]⟩, 0, false, false, false⟩ [] ⟨20, ⟨#[125]⟩, 0, false, false, false⟩ r (by decide) rfl (by kernel_rfl)
  · refine (nodesT_leaf _ _ (by kernel_rfl)).trans (congrArg (Nd.mk ⟨3, ⟨#[97]⟩, 0, false, false, false⟩ [] :: ·) ?_)
    exact nodesT_leaf _ _ (by kernel_rfl)
theorem lm_nds (a : Bool) : ∀ n, nodesT (lmT a n) = lmN a n
  | 0 => nodesT_nil
  | n + 1 => by
    have e2 : lmT a (n + 1) = uT a ++ lmT a n := rfl
    have e3 : lmN a (n + 1) = uN a ++ lmN a n := rfl
    rw [e2, e3, u_nds, lm_nds a n]
theorem shtQ_fuel (f f' : Nat) (l : List Nd) (h : l.length ≤ f) (h' : l.length ≤ f') : shtQ f l = shtQ f' l := by
  have h1 := shtR_Q l f 0
  have h2 := shtR_Q l f' 0
  rw [List.drop_zero] at h1 h2
  rw [h1, h2, shtR_fuel f f' l 0 (by omega) (by omega)]
theorem u_sht (a : Bool) (r : List Nd) : shtLs (uN a ++ r) = uR a :: shtLs r := by
  have h := shtQ_fuel (r.length + 1) r.length r (by omega) (Nat.le_refl _)
  cases a
  · have h1 : shtLs (uN false ++ r) = uR false :: shtQ (r.length + 1) r := by kernel_rfl
    rw [h1, h]; rfl
  · have h1 : shtLs (uN true ++ r) = uR true :: shtQ (r.length + 1) r := by kernel_rfl
    rw [h1, h]; rfl
theorem lm_sht (a : Bool) : ∀ n, shtLs (lmN a n) = List.replicate n (uR a)
  | 0 => rfl
  | n + 1 => by
    have e3 : lmN a (n + 1) = uN a ++ lmN a n := rfl
    rw [e3, u_sht, lm_sht a n, List.replicate_succ]
theorem all_rep {α : Type} (p : α → Bool) (l : List α) (h : l.all p = true) : ∀ n, ((List.replicate n l).flatten).all p = true
  | 0 => rfl
  | n + 1 => by rw [List.replicate_succ, List.flatten_cons, List.all_append, h, all_rep p l h n]; rfl
theorem lm_len (a : Bool) : ∀ n, (lmL a n).length = 3 * n
  | 0 => rfl
  | n + 1 => by rw [lmL_snoc, List.length_append, lm_len a n]; cases a <;> (show 3 * n + 3 = _; omega)
theorem lm_pl (a : Bool) (n : Nat) : (lmL a n).all plB = true := all_rep plB (uL a) (by cases a <;> kernel_rfl) n
theorem lm_all (a : Bool) (n : Nat) : allF (lmL a n) = lmN a n := by
  rw [allF, allA_nodes, ← nodes_T, ← toks_L, read_pl _ (lm_pl a n), lm_toks, lm_nds]
def lmR (a : Bool) (n : Nat) : List Rl := if 500 < n then [] else List.replicate n (uR a)
def lmE (n : Nat) : Int := if 500 < n then 3 else 0
theorem lm_she (a : Bool) (n : Nat) : shE (lmL a n) = (lmR a n, lmE n) := by
  rw [shE, shP, lm_all, shtA_Ls, lm_sht, List.length_replicate, lmR, lmE]
  split <;> rfl
theorem lm_ok (a : Bool) (n : Nat) (hn : n ≤ 600) : PCalls Tryz.prog 12 [.sl 1 ((lmL a n).map bD)] (.tup [.sl 4 ((lmR a n).map rlD), .val (.int .i64 (lmE n))]) := by
  have hN : (lmN a n).all (fun n => okTx n && n.kids.all okTx && (!atKB n || !decide (lowS n.tok.text = ⟨#[]⟩))) = true := all_rep _ (uN a) (by cases a <;> kernel_rfl) n
  have hA : ∀ x ∈ lmN a n, okTx x = true ∧ x.kids.all okTx = true ∧ (!atKB x || !decide (lowS x.tok.text = ⟨#[]⟩)) = true := fun x hx => by
    have := List.all_eq_true.1 hN x hx
    rw [Bool.and_eq_true, Bool.and_eq_true] at this
    exact ⟨this.1.1, this.1.2, this.2⟩
  have hlen := lm_len a n
  have hs := psheet_ok (lmL a n) (by omega) (fun x hx => by
      rw [read_pl _ (lm_pl a n)] at hx
      obtain ⟨c, _, rfl⟩ := List.mem_map.1 hx
      exact Int.natCast_nonneg _) (by
      rw [lm_all]
      intro x hx ha
      have h3 := (hA x hx).2.2
      rw [ha, Bool.not_true, Bool.false_or, Bool.not_eq_true', decide_eq_false_iff_not] at h3
      exact h3) (by
      rw [lm_all]
      exact fun x hx => of_decide_eq_true (hA x hx).1) (by
      rw [lm_all]
      exact fun x hx m hm => of_decide_eq_true (List.all_eq_true.1 (hA x hx).2.1 m hm))
  rw [lm_she] at hs
  exact hs
/- Blanks. -/
def bkE (m : Nat) : Int := if 65536 < m then 3 else 0
theorem bk_ok (m : Nat) (hm : 0 < m) (hm2 : m ≤ 66000) : PCalls Tryz.prog 12 [.sl 1 ((List.replicate m (32 : UInt8)).map bD)] (.tup [.sl 4 [], .val (.int .i64 (bkE m))]) := by
  by_cases hb : 65536 < m
  · rw [bkE, if_pos hb]
    exact psheet_big _ (by rw [List.length_replicate]; exact hb) (by rw [List.length_replicate]; omega)
  · rw [bkE, if_neg hb]
    have hp : (List.replicate m (32 : UInt8)).all plB = true := by rw [List.all_replicate]; split <;> first | rfl | decide
    have ht : toksL ((List.replicate m (32 : UInt8)).map bI) = [tkK 13 ⟨#[]⟩] := by
      obtain ⟨k, rfl⟩ : ∃ k, m = k + 1 := ⟨m - 1, by omega⟩
      have h1 := toksL_white 32 ((List.replicate k (32 : UInt8)).map bI) [] (by
        rw [List.all_cons, List.all_map, List.all_replicate]
        split <;> first | rfl | decide) (by decide)
      rw [List.append_nil, toksL_nil] at h1
      exact h1
    have hall : allF (List.replicate m (32 : UInt8)) = [.mk (tkK 13 ⟨#[]⟩) []] := by
      rw [allF, allA_nodes, ← nodes_T, ← toks_L, read_pl _ hp, ht]
      exact (nodesT_leaf _ _ (by kernel_rfl)).trans (congrArg _ nodesT_nil)
    have hs := psheet_ok (List.replicate m (32 : UInt8)) (by rw [List.length_replicate]; omega) (fun x hx => by
        rw [read_pl _ hp] at hx
        obtain ⟨c, _, rfl⟩ := List.mem_map.1 hx
        exact Int.natCast_nonneg _) (by
        rw [hall]
        intro x hx ha
        rw [List.mem_singleton] at hx
        subst hx
        exact absurd ha (by decide)) (by
        rw [hall]
        intro x hx
        rw [List.mem_singleton] at hx
        subst hx
        decide) (by
        rw [hall]
        intro x hx k hk
        rw [List.mem_singleton] at hx
        subst hx
        cases hk)
    have he : shE (List.replicate m (32 : UInt8)) = ([], 0) := by rw [shE, shP, hall]; kernel_rfl
    rw [he] at hs
    exact hs
def bkL (k m : Nat) : List UInt8 := List.replicate k 32 ++ List.replicate (m - k) 0
theorem bkL_len {k m : Nat} (h : k ≤ m) : (bkL k m).length = m := by rw [bkL, List.length_append, List.length_replicate, List.length_replicate]; omega
theorem bkL_set {k m : Nat} (h : k < m) : (bkL k m).set k 32 = bkL (k + 1) m := by
  rw [bkL, bkL, List.set_append_right _ _ (by rw [List.length_replicate]; exact Nat.le_refl _), List.length_replicate, Nat.sub_self]
  obtain ⟨d, hd⟩ : ∃ d, m - k = d + 1 := ⟨m - k - 1, by omega⟩
  rw [hd, List.replicate_succ, List.set_cons_zero, show m - (k + 1) = d by omega, List.replicate_succ', List.append_assoc]
  rfl
end Go.Proofs.YtiolnmfaeenlmaaGreatDoor
