import Derived.Test.YtihakfihojickaaDoorr3
import Derived.Test.YtihakfihojickaaDoorU5
import Derived.Test.YtihakfihojickaaDoorI9
/- Nodes said over lists. -/
namespace Go.Proofs.YtihakfihojickaaDoor
open Go Go.RowKit

/-- What stands in a node, over lists. -/
def kidsT : Nat → List Tk → Nat → ByteArray → List Nd → List Nd × List Tk
  | 0, l, _, _, acc => (acc, l)
  | _ + 1, [], _, _, acc => (acc, [])
  | f + 1, t :: r, deep, c, acc =>
    if clB1 t c = true then (acc, r)
    else if clzF t = ⟨#[]⟩ then kidsT f r deep c (addN deep acc (.mk t []))
    else kidsT f (kidsT f r (deep + 1) (clzF t) []).2 deep c (addN deep acc (.mk t (kidsT f r (deep + 1) (clzF t) []).1))
theorem tk_drop {L : List Tk} {a : Nat} (h : a < L.length) : L.drop a = tkAt L a :: L.drop (a + 1) := by
  rw [List.drop_eq_getElem_cons h]
  congr 1
  rw [tkAt, List.getD_eq_getElem?_getD, List.getElem?_eq_getElem h]
  rfl
theorem refK_T (L : List Tk) : ∀ (f a deep : Nat) (c : ByteArray) (acc : List Nd), kidsT f (L.drop a) deep c acc = ((refK f L a deep c acc).1, L.drop (refK f L a deep c acc).2)
  | 0, _, _, _, _ => rfl
  | f + 1, a, deep, c, acc => by
    rcases Nat.lt_or_ge a L.length with h | h
    · rw [tk_drop h, kidsT, refK, if_pos h]
      split
      · rfl
      split
      · exact refK_T L f (a + 1) deep c _
      · rw [refK_T L f (a + 1) (deep + 1)]
        simp only
        rw [refK_T L f]
    · rw [List.drop_eq_nil_of_le h, kidsT, refK, if_neg (by omega), List.drop_eq_nil_of_le h]
def nodeT (f : Nat) (t : Tk) (r : List Tk) (deep : Nat) : Nd × List Tk :=
  if clzF t = ⟨#[]⟩ then (.mk t [], r) else (.mk t (kidsT f r deep (clzF t) []).1, (kidsT f r deep (clzF t) []).2)
/-- Nodes of tokens, with so many steps. -/
def nodesN : Nat → List Tk → List Nd
  | 0, _ => []
  | _ + 1, [] => []
  | f + 1, t :: r => (nodeT r.length t r 1).1 :: nodesN f (nodeT r.length t r 1).2
def nodesT (l : List Tk) : List Nd := nodesN l.length l
theorem allR_N (L : List Tk) : ∀ (f a : Nat), nodesN f (L.drop a) = allR f L a
  | 0, _ => rfl
  | f + 1, a => by
    rcases Nat.lt_or_ge a L.length with h | h
    · have e : nodeT (L.drop (a + 1)).length (tkAt L a) (L.drop (a + 1)) 1 = ((nodeA L a 1).1, L.drop (nodeA L a 1).2) := by
        rw [nodeT, nodeA, List.length_drop, refK_T]
        unfold kidsA
        split <;> rfl
      rw [tk_drop h, nodesN, allR, if_pos h, e]
      simp only
      rw [allR_N L f]
    · rw [List.drop_eq_nil_of_le h, nodesN, allR, if_neg (by omega)]
theorem nodes_T (L : List Tk) : nodesT L = nodesA L 0 := by
  rw [nodesA, ← allR_N, List.drop_zero, nodesT]
  rfl
theorem nodesN_fuel (f f' : Nat) (l : List Tk) (h : l.length ≤ f) (h' : l.length ≤ f') : nodesN f l = nodesN f' l := by
  have h1 := allR_N l f 0
  have h2 := allR_N l f' 0
  rw [List.drop_zero] at h1 h2
  rw [h1, h2, allR_fuel f f' l 0 (by omega) (by omega)]
theorem nodesT_nil : nodesT [] = [] := rfl
theorem nodesT_leaf (t : Tk) (r : List Tk) (h : clzF t = ⟨#[]⟩) : nodesT (t :: r) = .mk t [] :: nodesT r := by
  rw [nodesT, List.length_cons, nodesN, nodeT, if_pos h]
  rfl
/-- Tokens that open nothing and do not close: each is a node by itself. -/
def leafB (c : ByteArray) (t : Tk) : Bool := !clB1 t c && decide (clzF t = ⟨#[]⟩)
theorem kidsT_leafs (deep : Nat) (c : ByteArray) (hd : deep < 32) : ∀ (ts r : List Tk) (f : Nat) (acc : List Nd), ts.all (leafB c) = true → kidsT (f + ts.length) (ts ++ r) deep c acc = kidsT f r deep c (acc ++ ts.map (fun t => .mk t []))
  | [], r, f, acc, _ => by simp
  | t :: ts, r, f, acc, h => by
    rw [List.all_cons, Bool.and_eq_true] at h
    have h1 := h.1
    rw [leafB, Bool.and_eq_true, decide_eq_true_eq, Bool.not_eq_true'] at h1
    rw [List.length_cons, ← Nat.add_assoc, List.cons_append, kidsT, if_neg (by rw [h1.1]; exact Bool.false_ne_true), if_pos h1.2, kidsT_leafs deep c hd ts r f _ h.2, addN, if_pos hd, List.map_cons, List.append_assoc]
    rfl
/-- A node with plain tokens in it. -/
theorem nodesT_open (t : Tk) (ts : List Tk) (u : Tk) (r : List Tk) (h : clzF t ≠ ⟨#[]⟩) (hts : ts.all (leafB (clzF t)) = true) (hu : clB1 u (clzF t) = true) : nodesT (t :: ts ++ u :: r) = .mk t (ts.map fun t => .mk t []) :: nodesT r := by
  have e : kidsT (ts ++ u :: r).length (ts ++ u :: r) 1 (clzF t) [] = (ts.map (fun t => .mk t []), r) := by
    rw [List.length_append, Nat.add_comm, kidsT_leafs 1 _ (by decide) ts (u :: r) _ [] hts, List.length_cons, kidsT, if_pos hu]
    rfl
  rw [nodesT, List.cons_append, List.length_cons, nodesN, nodeT, if_neg h, e]
  simp only
  rw [nodesN_fuel _ r.length r (by simp; omega) (Nat.le_refl _)]
  rfl
end Go.Proofs.YtihakfihojickaaDoor

/- Declarations and rules said over lists. -/
namespace Go.Proofs.YtihakfihojickaaDoor
open Go Go.RowKit

theorem nd_drop {l : List Nd} {i : Nat} (h : i < l.length) : l.drop i = ndAt l i :: l.drop (i + 1) := by
  rw [List.drop_eq_getElem_cons h, ndAt_get h]
theorem dropW_drop {α : Type} (p : α → Bool) : ∀ l : List α, l.drop (l.takeWhile p).length = l.dropWhile p
  | [] => rfl
  | a :: r => by
    rw [List.takeWhile_cons, List.dropWhile_cons]
    split
    · rw [List.length_cons, List.drop_succ_cons, dropW_drop p r]
    · rfl
theorem take_tw {α : Type} (p : α → Bool) : ∀ l : List α, l.take (l.takeWhile p).length = l.takeWhile p
  | [] => rfl
  | a :: r => by
    rw [List.takeWhile_cons]
    split
    · rw [List.length_cons, List.take_succ_cons, take_tw p r]
    · rfl
theorem runE_drop (p : Nd → Bool) (l : List Nd) (i : Nat) : l.drop (runE p l i) = (l.drop i).dropWhile p := by
  rw [runE, ← List.drop_drop, dropW_drop]
theorem take_runE (p : Nd → Bool) (l : List Nd) (i : Nat) : (l.take (runE p l i)).drop i = (l.drop i).takeWhile p := by
  rw [runE, List.drop_take, Nat.add_sub_cancel_left, take_tw]
def nsB (n : Nd) : Bool := !semB n
/-- What a segment without semicolons declares. -/
def oneQ (n : Nd) (q : List Nd) : List Dc :=
  if n.tok.kind = 1 then
    (match q.dropWhile whN with
      | [] => []
      | c :: v => if c.tok.kind = 16 then (if mayF (valF v).1 then [⟨nameS n.tok.text, (valF v).1, (valF v).2⟩] else []) else [])
  else []
theorem oneD_Q {l : List Nd} {i : Nat} (hi : i < l.length) (hs : nsB (ndAt l i) = true) : oneD l i (runE nsB l i) = oneQ (ndAt l i) ((l.drop (i + 1)).takeWhile nsB) := by
  have hk : i < runE nsB l i := runE_gt hi hs
  have hkl : runE nsB l i ≤ l.length := runE_le (by omega)
  have hq : (l.take (runE nsB l i)).drop (i + 1) = (l.drop (i + 1)).takeWhile nsB := by
    have h1 := take_runE nsB l i
    rw [nd_drop hi, List.takeWhile_cons, if_pos hs] at h1
    have h2 : ((l.take (runE nsB l i)).drop i).drop 1 = (l.drop (i + 1)).takeWhile nsB := by rw [h1]; rfl
    rw [← h2, List.drop_drop]
  have hlt : (l.take (runE nsB l i)).length = runE nsB l i := by rw [List.length_take]; omega
  rw [oneD, oneQ, ← hq, ← runE_drop]
  have hc0 := runE_le (p := whN) (l := l.take (runE nsB l i)) (i := i + 1) (by omega)
  rw [hlt] at hc0
  have hat : ∀ j, j < runE nsB l i → ndAt l j = ndAt (l.take (runE nsB l i)) j := fun j hj => (ndAt_take hj).symm
  generalize hkk : runE nsB l i = k at hk hkl hlt hc0 hat ⊢
  generalize hcc : runE whN (l.take k) (i + 1) = c at hc0 ⊢
  by_cases h1 : (ndAt l i).tok.kind = 1
  · rw [decide_eq_true h1, Bool.true_and, if_pos h1]
    rcases Nat.lt_or_ge c k with h2 | h2
    · rw [nd_drop (l := l.take k) (i := c) (by omega), decide_eq_true h2, Bool.true_and, hat c h2]
      simp only
      by_cases h3 : (ndAt (l.take k) c).tok.kind = 16
      · rw [if_pos h3, if_pos (decide_eq_true h3)]
      · rw [if_neg h3, if_neg (by rw [decide_eq_false h3]; exact Bool.false_ne_true)]
    · have hnil : (l.take k).drop c = [] := List.drop_eq_nil_of_le (by omega)
      rw [decide_eq_false (by omega), Bool.false_and, if_neg Bool.false_ne_true, hnil]
  · rw [decide_eq_false h1, Bool.false_and, if_neg h1, if_neg Bool.false_ne_true]
def nabB (n : Nd) : Bool := !semB n && !blkB n
/-- Declarations of nodes, with so many steps. -/
def decQ : Nat → List Nd → List Dc
  | 0, _ => []
  | _ + 1, [] => []
  | f + 1, n :: r =>
    if (decide (n.tok.kind = 13) || decide (n.tok.kind = 17)) = true then decQ f r
    else if n.tok.kind = 3 then decQ f (((n :: r).dropWhile nabB).drop 1)
    else oneQ n (r.takeWhile nsB) ++ decQ f ((n :: r).dropWhile nsB)
theorem decR_Q (l : List Nd) : ∀ (f i : Nat), decQ f (l.drop i) = decR f l i
  | 0, _ => rfl
  | f + 1, i => by
    rcases Nat.lt_or_ge i l.length with h | h
    · rw [nd_drop h, decQ, decR, if_pos h]
      split
      · exact decR_Q l f (i + 1)
      rename_i h1
      split
      · rw [← nd_drop h]
        have e : ((l.drop i).dropWhile nabB).drop 1 = l.drop (runE (fun n => !semB n && !blkB n) l i + 1) := by
          rw [← List.drop_drop, runE_drop]
          rfl
        rw [e]
        exact decR_Q l f _
      · have hs : nsB (ndAt l i) = true := by
          simp only [Bool.or_eq_true, decide_eq_true_eq, not_or] at h1
          simp only [nsB, semB, decide_eq_false h1.2]; rfl
        rw [← oneD_Q h hs, ← nd_drop h, ← runE_drop, decR_Q l f]
        rfl
    · rw [List.drop_eq_nil_of_le h, decQ, decR, if_neg (by omega)]
def decLs (l : List Nd) : List Dc := decQ l.length l
theorem decA_Ls (l : List Nd) : decA l 0 = decLs l := by
  rw [decA, ← decR_Q, List.drop_zero]
  rfl
theorem decQ_fuel (f f' : Nat) (l : List Nd) (h : l.length ≤ f) (h' : l.length ≤ f') : decQ f l = decQ f' l := by
  have h1 := decR_Q l f 0
  have h2 := decR_Q l f' 0
  rw [List.drop_zero] at h1 h2
  rw [h1, h2, decR_fuel f f' l 0 (by omega) (by omega)]
theorem decLs_nil : decLs [] = [] := rfl
theorem decLs_skip (n : Nd) (r : List Nd) (h : (decide (n.tok.kind = 13) || decide (n.tok.kind = 17)) = true) : decLs (n :: r) = decLs r := by
  rw [decLs, List.length_cons, decQ, if_pos h]
  rfl
/-- A segment, its semicolon, and what is behind. -/
theorem decLs_seg (n : Nd) (q r : List Nd) (s : Nd) (hn : (decide (n.tok.kind = 13) || decide (n.tok.kind = 17)) = false) (h3 : n.tok.kind ≠ 3) (hq : q.all nsB = true) (hs : semB s = true) : decLs (n :: q ++ s :: r) = oneQ n q ++ decLs r := by
  have hns : nsB n = true := by
    simp only [Bool.or_eq_false_iff, decide_eq_false_iff_not] at hn
    simp only [nsB, semB, decide_eq_false hn.2]; rfl
  have hss : nsB s = false := by rw [nsB, hs]; rfl
  have t : ∀ q : List Nd, q.all nsB = true → (q ++ s :: r).takeWhile nsB = q ∧ (q ++ s :: r).dropWhile nsB = s :: r := by
    intro q
    induction q with
    | nil => intro _; rw [List.nil_append, List.takeWhile_cons, List.dropWhile_cons, hss]; exact ⟨rfl, rfl⟩
    | cons a q ih =>
      intro h
      rw [List.all_cons, Bool.and_eq_true] at h
      rw [List.cons_append, List.takeWhile_cons, List.dropWhile_cons, h.1, if_pos rfl, if_pos rfl, (ih h.2).1, (ih h.2).2]
      exact ⟨rfl, rfl⟩
  rw [decLs, List.cons_append, List.length_cons, decQ, if_neg (by rw [hn]; exact Bool.false_ne_true), if_neg h3, List.dropWhile_cons, hns, if_pos rfl, (t q hq).1, (t q hq).2]
  congr 1
  rw [decQ_fuel _ (s :: r).length (s :: r) (by first | (simp; done) | (simp; omega)) (Nat.le_refl _)]
  exact decLs_skip s r (by rw [Bool.or_eq_true]; right; exact hs)
theorem decLs_last (n : Nd) (q : List Nd) (hn : (decide (n.tok.kind = 13) || decide (n.tok.kind = 17)) = false) (h3 : n.tok.kind ≠ 3) (hq : q.all nsB = true) : decLs (n :: q) = oneQ n q := by
  have hns : nsB n = true := by
    simp only [Bool.or_eq_false_iff, decide_eq_false_iff_not] at hn
    simp only [nsB, semB, decide_eq_false hn.2]; rfl
  have t : ∀ q : List Nd, q.all nsB = true → q.takeWhile nsB = q ∧ q.dropWhile nsB = [] := by
    intro q
    induction q with
    | nil => intro _; exact ⟨rfl, rfl⟩
    | cons a q ih =>
      intro h
      rw [List.all_cons, Bool.and_eq_true] at h
      rw [List.takeWhile_cons, List.dropWhile_cons, h.1, if_pos rfl, if_pos rfl, (ih h.2).1, (ih h.2).2]
      exact ⟨rfl, rfl⟩
  rw [decLs, List.length_cons, decQ, if_neg (by rw [hn]; exact Bool.false_ne_true), if_neg h3, List.dropWhile_cons, hns, if_pos rfl, (t q hq).1, (t q hq).2]
  cases q.length <;> simp [decQ]
/-- Rules of nodes, with so many steps. -/
def shtQ : Nat → List Nd → List Rl
  | 0, _ => []
  | _ + 1, [] => []
  | f + 1, n :: r =>
    if skB n = true then shtQ f r
    else (match (if atKB n = true then r else n :: r).dropWhile (goB (atKB n)) with
      | [] => if atKB n = true then [⟨if atKB n = true then lowS n.tok.text else ⟨#[]⟩, trimF ((if atKB n = true then r else n :: r).takeWhile (goB (atKB n))), false, []⟩] else []
      | m :: q => (if (atKB n || blkB m) = true then [⟨if atKB n = true then lowS n.tok.text else ⟨#[]⟩, trimF ((if atKB n = true then r else n :: r).takeWhile (goB (atKB n))), blkB m, if blkB m = true then decA m.kids 0 else []⟩] else []) ++ shtQ f q)
def shtLs (l : List Nd) : List Rl := shtQ l.length l
end Go.Proofs.YtihakfihojickaaDoor

/- DefineLast: what the text says (plain). -/
namespace Go.Proofs.YtihakfihojickaaDoor
open Go Go.RowKit
set_option maxRecDepth 20000

def lf (t : Tk) : Nd := .mk t []
def wd16 : Nat → List UInt8
  | 0 => [112, 114, 101, 102, 105, 120, 58, 32, 112, 49]
  | 1 => [112, 114, 101, 102, 105, 120, 58, 32, 39, 112, 50, 39]
  | 2 => [112, 114, 101, 102, 105, 120, 58, 32, 51]
  | 3 => [112, 114, 101, 102, 105, 120, 58, 32, 97, 32, 98]
  | 4 => [115, 117, 102, 102, 105, 120, 58, 32, 115]
  | 5 => [110, 101, 103, 97, 116, 105, 118, 101, 58, 32, 110, 32, 109]
  | 6 => [110, 101, 103, 97, 116, 105, 118, 101, 58, 32, 49]
  | 7 => [112, 97, 100, 58, 32, 51, 32, 122]
  | 8 => [112, 97, 100, 58, 32, 122]
  | 9 => [112, 97, 100, 58, 32, 45, 49, 32, 122]
  | 10 => [114, 97, 110, 103, 101, 58, 32, 50, 32, 53]
  | 11 => [114, 97, 110, 103, 101, 58, 32, 53, 32, 50]
  | 12 => [114, 97, 110, 103, 101, 58, 32, 97, 117, 116, 111]
  | 13 => [102, 97, 108, 108, 98, 97, 99, 107, 58, 32, 100, 105, 115, 99]
  | 14 => [102, 97, 108, 108, 98, 97, 99, 107, 58, 32, 110, 111, 110, 101]
  | _ => [115, 121, 115, 116, 101, 109, 58, 32, 99, 121, 99, 108, 105, 99]
def sgL (k : Nat) : List UInt8 := wd16 k ++ [59]
def sgT : Nat → List Tk
  | 0 => [(⟨1, ⟨#[112, 114, 101, 102, 105, 120]⟩, 0, false, false, false⟩ : Tk), (⟨16, ⟨#[]⟩, 0, false, false, false⟩ : Tk), (⟨13, ⟨#[]⟩, 0, false, false, false⟩ : Tk), (⟨1, ⟨#[112, 49]⟩, 0, false, false, false⟩ : Tk), (⟨17, ⟨#[]⟩, 0, false, false, false⟩ : Tk)]
  | 1 => [(⟨1, ⟨#[112, 114, 101, 102, 105, 120]⟩, 0, false, false, false⟩ : Tk), (⟨16, ⟨#[]⟩, 0, false, false, false⟩ : Tk), (⟨13, ⟨#[]⟩, 0, false, false, false⟩ : Tk), (⟨5, ⟨#[112, 50]⟩, 0, false, false, false⟩ : Tk), (⟨17, ⟨#[]⟩, 0, false, false, false⟩ : Tk)]
  | 2 => [(⟨1, ⟨#[112, 114, 101, 102, 105, 120]⟩, 0, false, false, false⟩ : Tk), (⟨16, ⟨#[]⟩, 0, false, false, false⟩ : Tk), (⟨13, ⟨#[]⟩, 0, false, false, false⟩ : Tk), (⟨10, ⟨#[]⟩, 3, true, false, false⟩ : Tk), (⟨17, ⟨#[]⟩, 0, false, false, false⟩ : Tk)]
  | 3 => [(⟨1, ⟨#[112, 114, 101, 102, 105, 120]⟩, 0, false, false, false⟩ : Tk), (⟨16, ⟨#[]⟩, 0, false, false, false⟩ : Tk), (⟨13, ⟨#[]⟩, 0, false, false, false⟩ : Tk), (⟨1, ⟨#[97]⟩, 0, false, false, false⟩ : Tk), (⟨13, ⟨#[]⟩, 0, false, false, false⟩ : Tk), (⟨1, ⟨#[98]⟩, 0, false, false, false⟩ : Tk), (⟨17, ⟨#[]⟩, 0, false, false, false⟩ : Tk)]
  | 4 => [(⟨1, ⟨#[115, 117, 102, 102, 105, 120]⟩, 0, false, false, false⟩ : Tk), (⟨16, ⟨#[]⟩, 0, false, false, false⟩ : Tk), (⟨13, ⟨#[]⟩, 0, false, false, false⟩ : Tk), (⟨1, ⟨#[115]⟩, 0, false, false, false⟩ : Tk), (⟨17, ⟨#[]⟩, 0, false, false, false⟩ : Tk)]
  | 5 => [(⟨1, ⟨#[110, 101, 103, 97, 116, 105, 118, 101]⟩, 0, false, false, false⟩ : Tk), (⟨16, ⟨#[]⟩, 0, false, false, false⟩ : Tk), (⟨13, ⟨#[]⟩, 0, false, false, false⟩ : Tk), (⟨1, ⟨#[110]⟩, 0, false, false, false⟩ : Tk), (⟨13, ⟨#[]⟩, 0, false, false, false⟩ : Tk), (⟨1, ⟨#[109]⟩, 0, false, false, false⟩ : Tk), (⟨17, ⟨#[]⟩, 0, false, false, false⟩ : Tk)]
  | 6 => [(⟨1, ⟨#[110, 101, 103, 97, 116, 105, 118, 101]⟩, 0, false, false, false⟩ : Tk), (⟨16, ⟨#[]⟩, 0, false, false, false⟩ : Tk), (⟨13, ⟨#[]⟩, 0, false, false, false⟩ : Tk), (⟨10, ⟨#[]⟩, 1, true, false, false⟩ : Tk), (⟨17, ⟨#[]⟩, 0, false, false, false⟩ : Tk)]
  | 7 => [(⟨1, ⟨#[112, 97, 100]⟩, 0, false, false, false⟩ : Tk), (⟨16, ⟨#[]⟩, 0, false, false, false⟩ : Tk), (⟨13, ⟨#[]⟩, 0, false, false, false⟩ : Tk), (⟨10, ⟨#[]⟩, 3, true, false, false⟩ : Tk), (⟨13, ⟨#[]⟩, 0, false, false, false⟩ : Tk), (⟨1, ⟨#[122]⟩, 0, false, false, false⟩ : Tk), (⟨17, ⟨#[]⟩, 0, false, false, false⟩ : Tk)]
  | 8 => [(⟨1, ⟨#[112, 97, 100]⟩, 0, false, false, false⟩ : Tk), (⟨16, ⟨#[]⟩, 0, false, false, false⟩ : Tk), (⟨13, ⟨#[]⟩, 0, false, false, false⟩ : Tk), (⟨1, ⟨#[122]⟩, 0, false, false, false⟩ : Tk), (⟨17, ⟨#[]⟩, 0, false, false, false⟩ : Tk)]
  | 9 => [(⟨1, ⟨#[112, 97, 100]⟩, 0, false, false, false⟩ : Tk), (⟨16, ⟨#[]⟩, 0, false, false, false⟩ : Tk), (⟨13, ⟨#[]⟩, 0, false, false, false⟩ : Tk), (⟨10, ⟨#[]⟩, -1, true, true, false⟩ : Tk), (⟨13, ⟨#[]⟩, 0, false, false, false⟩ : Tk), (⟨1, ⟨#[122]⟩, 0, false, false, false⟩ : Tk), (⟨17, ⟨#[]⟩, 0, false, false, false⟩ : Tk)]
  | 10 => [(⟨1, ⟨#[114, 97, 110, 103, 101]⟩, 0, false, false, false⟩ : Tk), (⟨16, ⟨#[]⟩, 0, false, false, false⟩ : Tk), (⟨13, ⟨#[]⟩, 0, false, false, false⟩ : Tk), (⟨10, ⟨#[]⟩, 2, true, false, false⟩ : Tk), (⟨13, ⟨#[]⟩, 0, false, false, false⟩ : Tk), (⟨10, ⟨#[]⟩, 5, true, false, false⟩ : Tk), (⟨17, ⟨#[]⟩, 0, false, false, false⟩ : Tk)]
  | 11 => [(⟨1, ⟨#[114, 97, 110, 103, 101]⟩, 0, false, false, false⟩ : Tk), (⟨16, ⟨#[]⟩, 0, false, false, false⟩ : Tk), (⟨13, ⟨#[]⟩, 0, false, false, false⟩ : Tk), (⟨10, ⟨#[]⟩, 5, true, false, false⟩ : Tk), (⟨13, ⟨#[]⟩, 0, false, false, false⟩ : Tk), (⟨10, ⟨#[]⟩, 2, true, false, false⟩ : Tk), (⟨17, ⟨#[]⟩, 0, false, false, false⟩ : Tk)]
  | 12 => [(⟨1, ⟨#[114, 97, 110, 103, 101]⟩, 0, false, false, false⟩ : Tk), (⟨16, ⟨#[]⟩, 0, false, false, false⟩ : Tk), (⟨13, ⟨#[]⟩, 0, false, false, false⟩ : Tk), (⟨1, ⟨#[97, 117, 116, 111]⟩, 0, false, false, false⟩ : Tk), (⟨17, ⟨#[]⟩, 0, false, false, false⟩ : Tk)]
  | 13 => [(⟨1, ⟨#[102, 97, 108, 108, 98, 97, 99, 107]⟩, 0, false, false, false⟩ : Tk), (⟨16, ⟨#[]⟩, 0, false, false, false⟩ : Tk), (⟨13, ⟨#[]⟩, 0, false, false, false⟩ : Tk), (⟨1, ⟨#[100, 105, 115, 99]⟩, 0, false, false, false⟩ : Tk), (⟨17, ⟨#[]⟩, 0, false, false, false⟩ : Tk)]
  | 14 => [(⟨1, ⟨#[102, 97, 108, 108, 98, 97, 99, 107]⟩, 0, false, false, false⟩ : Tk), (⟨16, ⟨#[]⟩, 0, false, false, false⟩ : Tk), (⟨13, ⟨#[]⟩, 0, false, false, false⟩ : Tk), (⟨1, ⟨#[110, 111, 110, 101]⟩, 0, false, false, false⟩ : Tk), (⟨17, ⟨#[]⟩, 0, false, false, false⟩ : Tk)]
  | _ => [(⟨1, ⟨#[115, 121, 115, 116, 101, 109]⟩, 0, false, false, false⟩ : Tk), (⟨16, ⟨#[]⟩, 0, false, false, false⟩ : Tk), (⟨13, ⟨#[]⟩, 0, false, false, false⟩ : Tk), (⟨1, ⟨#[99, 121, 99, 108, 105, 99]⟩, 0, false, false, false⟩ : Tk), (⟨17, ⟨#[]⟩, 0, false, false, false⟩ : Tk)]
def sgD : Nat → List Dc
  | 0 => [⟨⟨#[112, 114, 101, 102, 105, 120]⟩, [lf ⟨1, ⟨#[112, 49]⟩, 0, false, false, false⟩], false⟩]
  | 1 => [⟨⟨#[112, 114, 101, 102, 105, 120]⟩, [lf ⟨5, ⟨#[112, 50]⟩, 0, false, false, false⟩], false⟩]
  | 2 => [⟨⟨#[112, 114, 101, 102, 105, 120]⟩, [lf ⟨10, ⟨#[]⟩, 3, true, false, false⟩], false⟩]
  | 3 => [⟨⟨#[112, 114, 101, 102, 105, 120]⟩, [lf ⟨1, ⟨#[97]⟩, 0, false, false, false⟩, lf ⟨13, ⟨#[]⟩, 0, false, false, false⟩, lf ⟨1, ⟨#[98]⟩, 0, false, false, false⟩], false⟩]
  | 4 => [⟨⟨#[115, 117, 102, 102, 105, 120]⟩, [lf ⟨1, ⟨#[115]⟩, 0, false, false, false⟩], false⟩]
  | 5 => [⟨⟨#[110, 101, 103, 97, 116, 105, 118, 101]⟩, [lf ⟨1, ⟨#[110]⟩, 0, false, false, false⟩, lf ⟨13, ⟨#[]⟩, 0, false, false, false⟩, lf ⟨1, ⟨#[109]⟩, 0, false, false, false⟩], false⟩]
  | 6 => [⟨⟨#[110, 101, 103, 97, 116, 105, 118, 101]⟩, [lf ⟨10, ⟨#[]⟩, 1, true, false, false⟩], false⟩]
  | 7 => [⟨⟨#[112, 97, 100]⟩, [lf ⟨10, ⟨#[]⟩, 3, true, false, false⟩, lf ⟨13, ⟨#[]⟩, 0, false, false, false⟩, lf ⟨1, ⟨#[122]⟩, 0, false, false, false⟩], false⟩]
  | 8 => [⟨⟨#[112, 97, 100]⟩, [lf ⟨1, ⟨#[122]⟩, 0, false, false, false⟩], false⟩]
  | 9 => [⟨⟨#[112, 97, 100]⟩, [lf ⟨10, ⟨#[]⟩, -1, true, true, false⟩, lf ⟨13, ⟨#[]⟩, 0, false, false, false⟩, lf ⟨1, ⟨#[122]⟩, 0, false, false, false⟩], false⟩]
  | 10 => [⟨⟨#[114, 97, 110, 103, 101]⟩, [lf ⟨10, ⟨#[]⟩, 2, true, false, false⟩, lf ⟨13, ⟨#[]⟩, 0, false, false, false⟩, lf ⟨10, ⟨#[]⟩, 5, true, false, false⟩], false⟩]
  | 11 => [⟨⟨#[114, 97, 110, 103, 101]⟩, [lf ⟨10, ⟨#[]⟩, 5, true, false, false⟩, lf ⟨13, ⟨#[]⟩, 0, false, false, false⟩, lf ⟨10, ⟨#[]⟩, 2, true, false, false⟩], false⟩]
  | 12 => [⟨⟨#[114, 97, 110, 103, 101]⟩, [lf ⟨1, ⟨#[97, 117, 116, 111]⟩, 0, false, false, false⟩], false⟩]
  | 13 => [⟨⟨#[102, 97, 108, 108, 98, 97, 99, 107]⟩, [lf ⟨1, ⟨#[100, 105, 115, 99]⟩, 0, false, false, false⟩], false⟩]
  | 14 => [⟨⟨#[102, 97, 108, 108, 98, 97, 99, 107]⟩, [lf ⟨1, ⟨#[110, 111, 110, 101]⟩, 0, false, false, false⟩], false⟩]
  | _ => [⟨⟨#[115, 121, 115, 116, 101, 109]⟩, [lf ⟨1, ⟨#[99, 121, 99, 108, 105, 99]⟩, 0, false, false, false⟩], false⟩]
theorem sg_toks : ∀ k, k < 16 → ∀ rest : List Int, toksL ((sgL k).map bI ++ rest) = sgT k ++ toksL rest
  | 0, _, rest => toks_lit 40 (by kernel_rfl) (by decide)
  | 1, _, rest => toks_lit 40 (by kernel_rfl) (by decide)
  | 2, _, rest => toks_lit 40 (by kernel_rfl) (by decide)
  | 3, _, rest => toks_lit 40 (by kernel_rfl) (by decide)
  | 4, _, rest => toks_lit 40 (by kernel_rfl) (by decide)
  | 5, _, rest => toks_lit 40 (by kernel_rfl) (by decide)
  | 6, _, rest => toks_lit 40 (by kernel_rfl) (by decide)
  | 7, _, rest => toks_lit 40 (by kernel_rfl) (by decide)
  | 8, _, rest => toks_lit 40 (by kernel_rfl) (by decide)
  | 9, _, rest => toks_lit 40 (by kernel_rfl) (by decide)
  | 10, _, rest => toks_lit 40 (by kernel_rfl) (by decide)
  | 11, _, rest => toks_lit 40 (by kernel_rfl) (by decide)
  | 12, _, rest => toks_lit 40 (by kernel_rfl) (by decide)
  | 13, _, rest => toks_lit 40 (by kernel_rfl) (by decide)
  | 14, _, rest => toks_lit 40 (by kernel_rfl) (by decide)
  | 15, _, rest => toks_lit 40 (by kernel_rfl) (by decide)
  | k + 16, h, _ => absurd h (by omega)
def hdL : List UInt8 := [64, 99, 111, 117, 110, 116, 101, 114, 45, 115, 116, 121, 108, 101, 32, 107, 32, 123, 32, 115, 121, 109, 98, 111, 108, 115, 58, 32, 97, 32, 98, 59]
def hdT1 : List Tk := [(⟨3, ⟨#[99, 111, 117, 110, 116, 101, 114, 45, 115, 116, 121, 108, 101]⟩, 0, false, false, false⟩ : Tk), (⟨13, ⟨#[]⟩, 0, false, false, false⟩ : Tk), (⟨1, ⟨#[107]⟩, 0, false, false, false⟩ : Tk), (⟨13, ⟨#[]⟩, 0, false, false, false⟩ : Tk), (⟨19, ⟨#[123]⟩, 0, false, false, false⟩ : Tk)]
def hdK : List Tk := [(⟨13, ⟨#[]⟩, 0, false, false, false⟩ : Tk), (⟨1, ⟨#[115, 121, 109, 98, 111, 108, 115]⟩, 0, false, false, false⟩ : Tk), (⟨16, ⟨#[]⟩, 0, false, false, false⟩ : Tk), (⟨13, ⟨#[]⟩, 0, false, false, false⟩ : Tk), (⟨1, ⟨#[97]⟩, 0, false, false, false⟩ : Tk), (⟨13, ⟨#[]⟩, 0, false, false, false⟩ : Tk), (⟨1, ⟨#[98]⟩, 0, false, false, false⟩ : Tk), (⟨17, ⟨#[]⟩, 0, false, false, false⟩ : Tk)]
def opT : Tk := ⟨19, ⟨#[123]⟩, 0, false, false, false⟩
def clT : Tk := ⟨20, ⟨#[125]⟩, 0, false, false, false⟩
theorem hd_toks (rest : List Int) : toksL (hdL.map bI ++ rest) = hdT1 ++ hdK ++ toksL rest := by
  have h : toksL (hdL.map bI ++ rest) = (hdT1 ++ hdK) ++ toksL rest := toks_lit 60 (by kernel_rfl) (by decide)
  exact h
def goodT (t : Tk) : Bool := leafB (clzF opT) t && decide (t.text.size ≤ 1099511627776)
theorem sg_good : ∀ k, k < 16 → (sgT k).all goodT = true
  | 0, _ => by kernel_rfl
  | 1, _ => by kernel_rfl
  | 2, _ => by kernel_rfl
  | 3, _ => by kernel_rfl
  | 4, _ => by kernel_rfl
  | 5, _ => by kernel_rfl
  | 6, _ => by kernel_rfl
  | 7, _ => by kernel_rfl
  | 8, _ => by kernel_rfl
  | 9, _ => by kernel_rfl
  | 10, _ => by kernel_rfl
  | 11, _ => by kernel_rfl
  | 12, _ => by kernel_rfl
  | 13, _ => by kernel_rfl
  | 14, _ => by kernel_rfl
  | 15, _ => by kernel_rfl
  | k + 16, h => absurd h (by omega)
theorem sg_pl : ∀ k, k < 16 → (sgL k).all plB = true
  | 0, _ => by kernel_rfl
  | 1, _ => by kernel_rfl
  | 2, _ => by kernel_rfl
  | 3, _ => by kernel_rfl
  | 4, _ => by kernel_rfl
  | 5, _ => by kernel_rfl
  | 6, _ => by kernel_rfl
  | 7, _ => by kernel_rfl
  | 8, _ => by kernel_rfl
  | 9, _ => by kernel_rfl
  | 10, _ => by kernel_rfl
  | 11, _ => by kernel_rfl
  | 12, _ => by kernel_rfl
  | 13, _ => by kernel_rfl
  | 14, _ => by kernel_rfl
  | 15, _ => by kernel_rfl
  | k + 16, h => absurd h (by omega)
theorem sg_dec : ∀ k, k < 16 → ∀ r : List Nd, decLs ((sgT k).map lf ++ r) = sgD k ++ decLs r
  | 0, _, r => (decLs_seg (lf ⟨1, ⟨#[112, 114, 101, 102, 105, 120]⟩, 0, false, false, false⟩) [lf ⟨16, ⟨#[]⟩, 0, false, false, false⟩, lf ⟨13, ⟨#[]⟩, 0, false, false, false⟩, lf ⟨1, ⟨#[112, 49]⟩, 0, false, false, false⟩] r (lf ⟨17, ⟨#[]⟩, 0, false, false, false⟩) rfl (by decide) rfl rfl).trans (congrArg (· ++ decLs r) (by kernel_rfl))
  | 1, _, r => (decLs_seg (lf ⟨1, ⟨#[112, 114, 101, 102, 105, 120]⟩, 0, false, false, false⟩) [lf ⟨16, ⟨#[]⟩, 0, false, false, false⟩, lf ⟨13, ⟨#[]⟩, 0, false, false, false⟩, lf ⟨5, ⟨#[112, 50]⟩, 0, false, false, false⟩] r (lf ⟨17, ⟨#[]⟩, 0, false, false, false⟩) rfl (by decide) rfl rfl).trans (congrArg (· ++ decLs r) (by kernel_rfl))
  | 2, _, r => (decLs_seg (lf ⟨1, ⟨#[112, 114, 101, 102, 105, 120]⟩, 0, false, false, false⟩) [lf ⟨16, ⟨#[]⟩, 0, false, false, false⟩, lf ⟨13, ⟨#[]⟩, 0, false, false, false⟩, lf ⟨10, ⟨#[]⟩, 3, true, false, false⟩] r (lf ⟨17, ⟨#[]⟩, 0, false, false, false⟩) rfl (by decide) rfl rfl).trans (congrArg (· ++ decLs r) (by kernel_rfl))
  | 3, _, r => (decLs_seg (lf ⟨1, ⟨#[112, 114, 101, 102, 105, 120]⟩, 0, false, false, false⟩) [lf ⟨16, ⟨#[]⟩, 0, false, false, false⟩, lf ⟨13, ⟨#[]⟩, 0, false, false, false⟩, lf ⟨1, ⟨#[97]⟩, 0, false, false, false⟩, lf ⟨13, ⟨#[]⟩, 0, false, false, false⟩, lf ⟨1, ⟨#[98]⟩, 0, false, false, false⟩] r (lf ⟨17, ⟨#[]⟩, 0, false, false, false⟩) rfl (by decide) rfl rfl).trans (congrArg (· ++ decLs r) (by kernel_rfl))
  | 4, _, r => (decLs_seg (lf ⟨1, ⟨#[115, 117, 102, 102, 105, 120]⟩, 0, false, false, false⟩) [lf ⟨16, ⟨#[]⟩, 0, false, false, false⟩, lf ⟨13, ⟨#[]⟩, 0, false, false, false⟩, lf ⟨1, ⟨#[115]⟩, 0, false, false, false⟩] r (lf ⟨17, ⟨#[]⟩, 0, false, false, false⟩) rfl (by decide) rfl rfl).trans (congrArg (· ++ decLs r) (by kernel_rfl))
  | 5, _, r => (decLs_seg (lf ⟨1, ⟨#[110, 101, 103, 97, 116, 105, 118, 101]⟩, 0, false, false, false⟩) [lf ⟨16, ⟨#[]⟩, 0, false, false, false⟩, lf ⟨13, ⟨#[]⟩, 0, false, false, false⟩, lf ⟨1, ⟨#[110]⟩, 0, false, false, false⟩, lf ⟨13, ⟨#[]⟩, 0, false, false, false⟩, lf ⟨1, ⟨#[109]⟩, 0, false, false, false⟩] r (lf ⟨17, ⟨#[]⟩, 0, false, false, false⟩) rfl (by decide) rfl rfl).trans (congrArg (· ++ decLs r) (by kernel_rfl))
  | 6, _, r => (decLs_seg (lf ⟨1, ⟨#[110, 101, 103, 97, 116, 105, 118, 101]⟩, 0, false, false, false⟩) [lf ⟨16, ⟨#[]⟩, 0, false, false, false⟩, lf ⟨13, ⟨#[]⟩, 0, false, false, false⟩, lf ⟨10, ⟨#[]⟩, 1, true, false, false⟩] r (lf ⟨17, ⟨#[]⟩, 0, false, false, false⟩) rfl (by decide) rfl rfl).trans (congrArg (· ++ decLs r) (by kernel_rfl))
  | 7, _, r => (decLs_seg (lf ⟨1, ⟨#[112, 97, 100]⟩, 0, false, false, false⟩) [lf ⟨16, ⟨#[]⟩, 0, false, false, false⟩, lf ⟨13, ⟨#[]⟩, 0, false, false, false⟩, lf ⟨10, ⟨#[]⟩, 3, true, false, false⟩, lf ⟨13, ⟨#[]⟩, 0, false, false, false⟩, lf ⟨1, ⟨#[122]⟩, 0, false, false, false⟩] r (lf ⟨17, ⟨#[]⟩, 0, false, false, false⟩) rfl (by decide) rfl rfl).trans (congrArg (· ++ decLs r) (by kernel_rfl))
  | 8, _, r => (decLs_seg (lf ⟨1, ⟨#[112, 97, 100]⟩, 0, false, false, false⟩) [lf ⟨16, ⟨#[]⟩, 0, false, false, false⟩, lf ⟨13, ⟨#[]⟩, 0, false, false, false⟩, lf ⟨1, ⟨#[122]⟩, 0, false, false, false⟩] r (lf ⟨17, ⟨#[]⟩, 0, false, false, false⟩) rfl (by decide) rfl rfl).trans (congrArg (· ++ decLs r) (by kernel_rfl))
  | 9, _, r => (decLs_seg (lf ⟨1, ⟨#[112, 97, 100]⟩, 0, false, false, false⟩) [lf ⟨16, ⟨#[]⟩, 0, false, false, false⟩, lf ⟨13, ⟨#[]⟩, 0, false, false, false⟩, lf ⟨10, ⟨#[]⟩, -1, true, true, false⟩, lf ⟨13, ⟨#[]⟩, 0, false, false, false⟩, lf ⟨1, ⟨#[122]⟩, 0, false, false, false⟩] r (lf ⟨17, ⟨#[]⟩, 0, false, false, false⟩) rfl (by decide) rfl rfl).trans (congrArg (· ++ decLs r) (by kernel_rfl))
  | 10, _, r => (decLs_seg (lf ⟨1, ⟨#[114, 97, 110, 103, 101]⟩, 0, false, false, false⟩) [lf ⟨16, ⟨#[]⟩, 0, false, false, false⟩, lf ⟨13, ⟨#[]⟩, 0, false, false, false⟩, lf ⟨10, ⟨#[]⟩, 2, true, false, false⟩, lf ⟨13, ⟨#[]⟩, 0, false, false, false⟩, lf ⟨10, ⟨#[]⟩, 5, true, false, false⟩] r (lf ⟨17, ⟨#[]⟩, 0, false, false, false⟩) rfl (by decide) rfl rfl).trans (congrArg (· ++ decLs r) (by kernel_rfl))
  | 11, _, r => (decLs_seg (lf ⟨1, ⟨#[114, 97, 110, 103, 101]⟩, 0, false, false, false⟩) [lf ⟨16, ⟨#[]⟩, 0, false, false, false⟩, lf ⟨13, ⟨#[]⟩, 0, false, false, false⟩, lf ⟨10, ⟨#[]⟩, 5, true, false, false⟩, lf ⟨13, ⟨#[]⟩, 0, false, false, false⟩, lf ⟨10, ⟨#[]⟩, 2, true, false, false⟩] r (lf ⟨17, ⟨#[]⟩, 0, false, false, false⟩) rfl (by decide) rfl rfl).trans (congrArg (· ++ decLs r) (by kernel_rfl))
  | 12, _, r => (decLs_seg (lf ⟨1, ⟨#[114, 97, 110, 103, 101]⟩, 0, false, false, false⟩) [lf ⟨16, ⟨#[]⟩, 0, false, false, false⟩, lf ⟨13, ⟨#[]⟩, 0, false, false, false⟩, lf ⟨1, ⟨#[97, 117, 116, 111]⟩, 0, false, false, false⟩] r (lf ⟨17, ⟨#[]⟩, 0, false, false, false⟩) rfl (by decide) rfl rfl).trans (congrArg (· ++ decLs r) (by kernel_rfl))
  | 13, _, r => (decLs_seg (lf ⟨1, ⟨#[102, 97, 108, 108, 98, 97, 99, 107]⟩, 0, false, false, false⟩) [lf ⟨16, ⟨#[]⟩, 0, false, false, false⟩, lf ⟨13, ⟨#[]⟩, 0, false, false, false⟩, lf ⟨1, ⟨#[100, 105, 115, 99]⟩, 0, false, false, false⟩] r (lf ⟨17, ⟨#[]⟩, 0, false, false, false⟩) rfl (by decide) rfl rfl).trans (congrArg (· ++ decLs r) (by kernel_rfl))
  | 14, _, r => (decLs_seg (lf ⟨1, ⟨#[102, 97, 108, 108, 98, 97, 99, 107]⟩, 0, false, false, false⟩) [lf ⟨16, ⟨#[]⟩, 0, false, false, false⟩, lf ⟨13, ⟨#[]⟩, 0, false, false, false⟩, lf ⟨1, ⟨#[110, 111, 110, 101]⟩, 0, false, false, false⟩] r (lf ⟨17, ⟨#[]⟩, 0, false, false, false⟩) rfl (by decide) rfl rfl).trans (congrArg (· ++ decLs r) (by kernel_rfl))
  | 15, _, r => (decLs_seg (lf ⟨1, ⟨#[115, 121, 115, 116, 101, 109]⟩, 0, false, false, false⟩) [lf ⟨16, ⟨#[]⟩, 0, false, false, false⟩, lf ⟨13, ⟨#[]⟩, 0, false, false, false⟩, lf ⟨1, ⟨#[99, 121, 99, 108, 105, 99]⟩, 0, false, false, false⟩] r (lf ⟨17, ⟨#[]⟩, 0, false, false, false⟩) rfl (by decide) rfl rfl).trans (congrArg (· ++ decLs r) (by kernel_rfl))
  | k + 16, h, _ => absurd h (by omega)
def hdD : List Dc := [⟨⟨#[115, 121, 109, 98, 111, 108, 115]⟩, [lf ⟨1, ⟨#[97]⟩, 0, false, false, false⟩, lf ⟨13, ⟨#[]⟩, 0, false, false, false⟩, lf ⟨1, ⟨#[98]⟩, 0, false, false, false⟩], false⟩]
theorem hd_dec (r : List Nd) : decLs (hdK.map lf ++ r) = hdD ++ decLs r := by
  have h1 : decLs (hdK.map lf ++ r) = decLs ([lf ⟨1, ⟨#[115, 121, 109, 98, 111, 108, 115]⟩, 0, false, false, false⟩, lf ⟨16, ⟨#[]⟩, 0, false, false, false⟩, lf ⟨13, ⟨#[]⟩, 0, false, false, false⟩, lf ⟨1, ⟨#[97]⟩, 0, false, false, false⟩, lf ⟨13, ⟨#[]⟩, 0, false, false, false⟩, lf ⟨1, ⟨#[98]⟩, 0, false, false, false⟩, lf ⟨17, ⟨#[]⟩, 0, false, false, false⟩] ++ r) := decLs_skip (lf ⟨13, ⟨#[]⟩, 0, false, false, false⟩) ([lf ⟨1, ⟨#[115, 121, 109, 98, 111, 108, 115]⟩, 0, false, false, false⟩, lf ⟨16, ⟨#[]⟩, 0, false, false, false⟩, lf ⟨13, ⟨#[]⟩, 0, false, false, false⟩, lf ⟨1, ⟨#[97]⟩, 0, false, false, false⟩, lf ⟨13, ⟨#[]⟩, 0, false, false, false⟩, lf ⟨1, ⟨#[98]⟩, 0, false, false, false⟩, lf ⟨17, ⟨#[]⟩, 0, false, false, false⟩] ++ r) rfl
  exact h1.trans ((decLs_seg (lf ⟨1, ⟨#[115, 121, 109, 98, 111, 108, 115]⟩, 0, false, false, false⟩) [lf ⟨16, ⟨#[]⟩, 0, false, false, false⟩, lf ⟨13, ⟨#[]⟩, 0, false, false, false⟩, lf ⟨1, ⟨#[97]⟩, 0, false, false, false⟩, lf ⟨13, ⟨#[]⟩, 0, false, false, false⟩, lf ⟨1, ⟨#[98]⟩, 0, false, false, false⟩] r (lf ⟨17, ⟨#[]⟩, 0, false, false, false⟩) rfl (by decide) rfl rfl).trans (congrArg (· ++ decLs r) (by kernel_rfl)))
def sgsL (ks : List Nat) : List UInt8 := (ks.map sgL).flatten
def sgsT (ks : List Nat) : List Tk := (ks.map sgT).flatten
def sgsD (ks : List Nat) : List Dc := (ks.map sgD).flatten
def txF (ks : List Nat) : List UInt8 := hdL ++ sgsL ks ++ [125]
theorem sgs_toks : ∀ (ks : List Nat) (_ : ∀ k ∈ ks, k < 16) (rest : List Int), toksL ((sgsL ks).map bI ++ rest) = sgsT ks ++ toksL rest
  | [], _, _ => rfl
  | k :: r, h, rest => by
    have h1 : sgsL (k :: r) = sgL k ++ sgsL r := rfl
    have h2 : sgsT (k :: r) = sgT k ++ sgsT r := rfl
    rw [h1, h2, List.map_append, List.append_assoc, sg_toks k (h k (List.mem_cons_self ..)), sgs_toks r (fun j hj => h j (List.mem_cons_of_mem _ hj)), List.append_assoc]
theorem sgs_good : ∀ (ks : List Nat) (_ : ∀ k ∈ ks, k < 16), (sgsT ks).all goodT = true
  | [], _ => rfl
  | k :: r, h => by
    have h2 : sgsT (k :: r) = sgT k ++ sgsT r := rfl
    rw [h2, List.all_append, sg_good k (h k (List.mem_cons_self ..)), sgs_good r (fun j hj => h j (List.mem_cons_of_mem _ hj))]
    rfl
theorem sgs_pl : ∀ (ks : List Nat) (_ : ∀ k ∈ ks, k < 16), (sgsL ks).all plB = true
  | [], _ => rfl
  | k :: r, h => by
    have h2 : sgsL (k :: r) = sgL k ++ sgsL r := rfl
    rw [h2, List.all_append, sg_pl k (h k (List.mem_cons_self ..)), sgs_pl r (fun j hj => h j (List.mem_cons_of_mem _ hj))]
    rfl
theorem sgs_dec : ∀ (ks : List Nat) (_ : ∀ k ∈ ks, k < 16) (r : List Nd), decLs ((sgsT ks).map lf ++ r) = sgsD ks ++ decLs r
  | [], _, _ => rfl
  | k :: q, h, r => by
    have h1 : sgsD (k :: q) = sgD k ++ sgsD q := rfl
    have h2 : sgsT (k :: q) = sgT k ++ sgsT q := rfl
    rw [h1, h2, List.map_append, List.append_assoc, sg_dec k (h k (List.mem_cons_self ..)), sgs_dec q (fun j hj => h j (List.mem_cons_of_mem _ hj)), List.append_assoc]
theorem tx_toks (ks : List Nat) (h : ∀ k ∈ ks, k < 16) : toks ⟨(txF ks).toArray⟩ = hdT1 ++ (hdK ++ sgsT ks) ++ [clT] := by
  have hp : (txF ks).all plB = true := by
    rw [txF, List.all_append, List.all_append, sgs_pl ks h]
    kernel_rfl
  have h1 : toks ⟨(txF ks).toArray⟩ = toksF (readL ⟨(txF ks).toArray⟩) := rfl
  have h2 : toksL (([125] : List UInt8).map bI) = [clT] := by kernel_rfl
  rw [h1, ← toks_L, read_pl _ hp, txF, List.map_append, List.map_append, List.append_assoc, hd_toks, sgs_toks ks h, h2]
  simp only [List.append_assoc]
def kdF (ks : List Nat) : List Nd := (hdK ++ sgsT ks).map lf
def ruF (ks : List Nat) : List Nd := [lf ⟨3, ⟨#[99, 111, 117, 110, 116, 101, 114, 45, 115, 116, 121, 108, 101]⟩, 0, false, false, false⟩, lf ⟨13, ⟨#[]⟩, 0, false, false, false⟩, lf ⟨1, ⟨#[107]⟩, 0, false, false, false⟩, lf ⟨13, ⟨#[]⟩, 0, false, false, false⟩, .mk opT (kdF ks)]
theorem tx_nds (ks : List Nat) (h : ∀ k ∈ ks, k < 16) : ndsF ⟨(txF ks).toArray⟩ = ruF ks := by
  have hg : (hdK ++ sgsT ks).all (leafB (clzF opT)) = true := by
    rw [List.all_append, show hdK.all (leafB (clzF opT)) = true by kernel_rfl, Bool.true_and, List.all_eq_true]
    intro t ht
    have := List.all_eq_true.1 (sgs_good ks h) t ht
    rw [goodT, Bool.and_eq_true] at this
    exact this.1
  have h1 : ndsF ⟨(txF ks).toArray⟩ = nodesT (toks ⟨(txF ks).toArray⟩) := (nodes_T _).symm
  rw [h1, tx_toks ks h, hdT1]
  simp only [List.cons_append, List.nil_append]
  rw [nodesT_leaf _ _ (by kernel_rfl), nodesT_leaf _ _ (by kernel_rfl), nodesT_leaf _ _ (by kernel_rfl), nodesT_leaf _ _ (by kernel_rfl)]
  have h3 := nodesT_open opT (hdK ++ sgsT ks) clT [] (by decide) hg (by kernel_rfl)
  rw [nodesT_nil] at h3
  exact congrArg (fun q => lf _ :: lf _ :: lf _ :: lf _ :: q) h3
def rlF (ks : List Nat) : Rl := ⟨csS, [lf ⟨1, ⟨#[107]⟩, 0, false, false, false⟩], true, hdD ++ sgsD ks⟩
theorem tx_dec (ks : List Nat) (h : ∀ k ∈ ks, k < 16) : decA (kdF ks) 0 = hdD ++ sgsD ks := by
  have h1 := sgs_dec ks h []
  rw [List.append_nil, decLs_nil, List.append_nil] at h1
  rw [decA_Ls, kdF, List.map_append, hd_dec, h1]
theorem sht_of (K : List Nd) : shtA [lf ⟨3, ⟨#[99, 111, 117, 110, 116, 101, 114, 45, 115, 116, 121, 108, 101]⟩, 0, false, false, false⟩, lf ⟨13, ⟨#[]⟩, 0, false, false, false⟩, lf ⟨1, ⟨#[107]⟩, 0, false, false, false⟩, lf ⟨13, ⟨#[]⟩, 0, false, false, false⟩, .mk opT K] 0 = [⟨csS, [lf ⟨1, ⟨#[107]⟩, 0, false, false, false⟩], true, decA K 0⟩] := by kernel_rfl
theorem tx_sht (ks : List Nat) (h : ∀ k ∈ ks, k < 16) : shF ⟨(txF ks).toArray⟩ = [rlF ks] := by
  rw [shF, tx_nds ks h, ruF, sht_of, tx_dec ks h]
  rfl
/-- What the law keeps. -/
structure Sx where
  p : Nat
  s : Bool
  n : Bool
  d : Bool
  lo : Bool
  f : Bool
  y : Bool
  said : Nat
def preX : Nat → ByteArray
  | 0 => ⟨#[]⟩
  | 1 => ⟨#[112, 49]⟩
  | _ => ⟨#[112, 50]⟩
def sufX (b : Bool) : ByteArray := cond b ⟨#[115]⟩ ⟨#[46, 32]⟩
def negX (b : Bool) : ByteArray := cond b ⟨#[110]⟩ ⟨#[45]⟩
def padX (b : Bool) : Int := cond b 3 0
def loX (b : Bool) : Int := cond b 2 0
def falX (b : Bool) : ByteArray := cond b ⟨#[100, 105, 115, 99]⟩ ⟨#[100, 101, 99, 105, 109, 97, 108]⟩
def sysX (b : Bool) : ByteArray := cond b cyclicS symbolicS
def stS (x : Sx) : Sd := { sd0 ⟨#[107]⟩ with syms := [⟨#[97]⟩, ⟨#[98]⟩], symbolic := true, pre := preX x.p, suf := sufX x.s, neg1 := negX x.n, neg2 := cond x.n ⟨#[109]⟩ ⟨#[]⟩, pad := padX x.d, padSign := cond x.d ⟨#[122]⟩ ⟨#[]⟩, auto := !x.lo, range := cond x.lo [(2, 5)] [], fall := falX x.f, system := sysX x.y, said := x.said }
def stX (x : Sx) : Nat → Sx
  | 0 => { x with p := 1, said := x.said ||| 2 }
  | 1 => { x with p := 2, said := x.said ||| 2 }
  | 4 => { x with s := true, said := x.said ||| 4 }
  | 5 => { x with n := true, said := x.said ||| 1 }
  | 7 => { x with d := true, said := x.said ||| 16 }
  | 10 => { x with lo := true, said := x.said ||| 8 }
  | 12 => { x with lo := false, said := x.said ||| 8 }
  | 13 => { x with f := true, said := x.said ||| 32 }
  | 15 => { x with y := true }
  | _ => x
def x0 : Sx := ⟨0, false, false, false, false, false, false, 0⟩
def stAll (ks : List Nat) : Sx := ks.foldl stX x0
theorem st_step : ∀ k, k < 16 → ∀ x, sayAll (stS x) (sgD k) = stS (stX x k)
  | 0, _, x => by kernel_rfl
  | 1, _, x => by kernel_rfl
  | 2, _, x => by kernel_rfl
  | 3, _, x => by kernel_rfl
  | 4, _, x => by kernel_rfl
  | 5, _, x => by kernel_rfl
  | 6, _, x => by kernel_rfl
  | 7, _, x => by kernel_rfl
  | 8, _, x => by kernel_rfl
  | 9, _, x => by kernel_rfl
  | 10, _, x => by kernel_rfl
  | 11, _, x => by kernel_rfl
  | 12, _, x => by kernel_rfl
  | 13, _, x => by kernel_rfl
  | 14, _, x => by kernel_rfl
  | 15, _, x => by kernel_rfl
  | k + 16, h, _ => absurd h (by omega)
theorem st_all : ∀ (ks : List Nat) (_ : ∀ k ∈ ks, k < 16) (x : Sx), sayAll (stS x) (sgsD ks) = stS (ks.foldl stX x)
  | [], _, _ => rfl
  | k :: r, h, x => by
    have h1 : sgsD (k :: r) = sgD k ++ sgsD r := rfl
    have h2 : sayAll (stS x) (sgD k ++ sgsD r) = sayAll (sayAll (stS x) (sgD k)) (sgsD r) := List.foldl_append
    rw [h1, h2, st_step k (h k (List.mem_cons_self ..)), st_all r (fun j hj => h j (List.mem_cons_of_mem _ hj))]
    rfl
theorem tx_say (ks : List Nat) (h : ∀ k ∈ ks, k < 16) : sayAll (sd0 ⟨#[107]⟩) (hdD ++ sgsD ks) = stS (stAll ks) := by
  have h2 : sayAll (sd0 ⟨#[107]⟩) (hdD ++ sgsD ks) = sayAll (sayAll (sd0 ⟨#[107]⟩) hdD) (sgsD ks) := List.foldl_append
  have h3 : sayAll (sd0 ⟨#[107]⟩) hdD = stS x0 := by kernel_rfl
  rw [h2, h3, st_all ks h]
  rfl
def stE (x : Sx) : Sd := { stS x with symbols := [⟨#[97]⟩, ⟨#[98]⟩] }
theorem end_at : ∀ x : Sx, endP (stS x) = (stE x, 0)
  | ⟨0, s, n, d, lo, f, y, said⟩ => by cases s <;> cases n <;> cases d <;> cases lo <;> cases f <;> cases y <;> (show endP _ = _; kernel_rfl)
  | ⟨1, s, n, d, lo, f, y, said⟩ => by cases s <;> cases n <;> cases d <;> cases lo <;> cases f <;> cases y <;> (show endP _ = _; kernel_rfl)
  | ⟨p + 2, s, n, d, lo, f, y, said⟩ => by cases s <;> cases n <;> cases d <;> cases lo <;> cases f <;> cases y <;> (show endP _ = _; kernel_rfl)
theorem nm_at : nmF (rlF []).pre = (⟨#[107]⟩, true) := by kernel_rfl
theorem tx_def (ks : List Nat) (h : ∀ k ∈ ks, k < 16) : defP (rlF ks) = (stE (stAll ks), 0) := by
  have hn : nmF (rlF ks).pre = (⟨#[107]⟩, true) := nm_at
  have h1 : (rlF ks).at_ = csS ∧ (rlF ks).blk = true := ⟨rfl, rfl⟩
  have h2 : (true && !amgF fixN (lowS ⟨#[107]⟩)) = true := by kernel_rfl
  rw [defP, if_pos h1, hn, if_pos h2, show (rlF ks).decls = hdD ++ sgsD ks from rfl, tx_say ks h, end_at]
theorem sg_dok : ∀ k, k < 16 → (sgD k).all (fun d => decide (nszs d.value < 1099511627776) && d.value.all okT) = true
  | 0, _ => by kernel_rfl
  | 1, _ => by kernel_rfl
  | 2, _ => by kernel_rfl
  | 3, _ => by kernel_rfl
  | 4, _ => by kernel_rfl
  | 5, _ => by kernel_rfl
  | 6, _ => by kernel_rfl
  | 7, _ => by kernel_rfl
  | 8, _ => by kernel_rfl
  | 9, _ => by kernel_rfl
  | 10, _ => by kernel_rfl
  | 11, _ => by kernel_rfl
  | 12, _ => by kernel_rfl
  | 13, _ => by kernel_rfl
  | 14, _ => by kernel_rfl
  | 15, _ => by kernel_rfl
  | k + 16, h => absurd h (by omega)
theorem sgs_dok : ∀ (ks : List Nat) (_ : ∀ k ∈ ks, k < 16), (sgsD ks).all (fun d => decide (nszs d.value < 1099511627776) && d.value.all okT) = true
  | [], _ => rfl
  | k :: r, h => by
    have h1 : sgsD (k :: r) = sgD k ++ sgsD r := rfl
    rw [h1, List.all_append, sg_dok k (h k (List.mem_cons_self ..)), sgs_dok r (fun j hj => h j (List.mem_cons_of_mem _ hj))]
    rfl
theorem sg_len : ∀ k, k < 16 → (sgL k).length ≤ 20 ∧ (sgD k).length = 1
  | 0, _ => by decide
  | 1, _ => by decide
  | 2, _ => by decide
  | 3, _ => by decide
  | 4, _ => by decide
  | 5, _ => by decide
  | 6, _ => by decide
  | 7, _ => by decide
  | 8, _ => by decide
  | 9, _ => by decide
  | 10, _ => by decide
  | 11, _ => by decide
  | 12, _ => by decide
  | 13, _ => by decide
  | 14, _ => by decide
  | 15, _ => by decide
  | k + 16, h => absurd h (by omega)
theorem sgs_len : ∀ (ks : List Nat) (_ : ∀ k ∈ ks, k < 16), (sgsL ks).length ≤ 20 * ks.length ∧ (sgsD ks).length = ks.length
  | [], _ => ⟨Nat.le_refl _, rfl⟩
  | k :: r, h => by
    have h1 : sgsD (k :: r) = sgD k ++ sgsD r := rfl
    have h2 : sgsL (k :: r) = sgL k ++ sgsL r := rfl
    have h3 := sg_len k (h k (List.mem_cons_self ..))
    have h4 := sgs_len r (fun j hj => h j (List.mem_cons_of_mem _ hj))
    rw [h1, h2, List.length_append, List.length_append, List.length_cons]
    omega
theorem tx_okR (ks : List Nat) (h : ∀ k ∈ ks, k < 16) (hl : ks.length ≤ 20) : okR (rlF ks) = true := by
  have hn : nmF (rlF ks).pre = (⟨#[107]⟩, true) := nm_at
  have hd : (rlF ks).decls = hdD ++ sgsD ks := rfl
  have h3 := sgs_len ks h
  have h4 : (rlF ks).decls.length ≤ 1099511627776 := by
    rw [hd, List.length_append, h3.2, show hdD.length = 1 from rfl]
    omega
  have h5 : (rlF ks).decls.all (fun d => decide (nszs d.value < 1099511627776) && d.value.all okT) = true := by
    rw [hd, List.all_append, sgs_dok ks h]
    kernel_rfl
  have hr : (stS (stAll ks)).range.length ≤ 65536 := by
    show (cond (stAll ks).lo [((2 : Int), (5 : Int))] []).length ≤ 65536
    cases (stAll ks).lo <;> decide
  simp only [okR, Bool.and_eq_true, decide_eq_true_eq]
  refine ⟨⟨⟨⟨⟨⟨⟨⟨⟨?_, ?_⟩, h4⟩, h5⟩, ?_⟩, ?_⟩, ?_⟩, ?_⟩, ?_⟩, ?_⟩
  · exact of_decide_eq_true (by kernel_rfl)
  · kernel_rfl
  all_goals rw [hn]
  · decide
  all_goals rw [hd, tx_say ks h]
  · exact of_decide_eq_true (by kernel_rfl)
  · exact of_decide_eq_true (by kernel_rfl)
  · exact of_decide_eq_true (by kernel_rfl)
  · exact hr
  · exact of_decide_eq_true (by kernel_rfl)
theorem tx_okSh (ks : List Nat) (h : ∀ k ∈ ks, k < 16) (hl : ks.length ≤ 20) : okSh ⟨(txF ks).toArray⟩ = true := by
  have h3 := sgs_len ks h
  have hlf : ∀ t, goodT t = true → okT (lf t) = true := fun t ht => by rw [goodT, Bool.and_eq_true] at ht; exact ht.2
  have h5 : (kdF ks).all okT = true := by
    rw [kdF, List.map_append, List.all_append, List.all_map, List.all_map]
    rw [Bool.and_eq_true]
    refine ⟨by kernel_rfl, List.all_eq_true.2 fun t ht => hlf t (List.all_eq_true.1 (sgs_good ks h) t ht)⟩
  have h6 : ((ruF ks).all fun n => okT n && n.kids.all okT) = true := by
    have : ((ruF ks).all fun n => okT n && n.kids.all okT) = (true && (kdF ks).all okT && true) := by kernel_rfl
    rw [this, h5]
    rfl
  have h7 : (⟨(txF ks).toArray⟩ : ByteArray).size ≤ 65536 := by
    rw [sz_list, txF, List.length_append, List.length_append, show hdL.length = 32 from rfl, show ([125] : List UInt8).length = 1 from rfl]
    omega
  rw [okSh, tx_nds ks h, h6, tx_sht ks h, decide_eq_true h7]
  rfl
theorem tx_one (ks : List Nat) (h : ∀ k ∈ ks, k < 16) : one10F ⟨(txF ks).toArray⟩ = (stE (stAll ks), 0) := by
  rw [one10F, tx_sht ks h]
  exact tx_def ks h
end Go.Proofs.YtihakfihojickaaDoor
