import Derived.Test.YtiolnmfaeenlmaaGreatDoorr9
import Derived.Test.YtiolnmfaeenlmaaGreatDoorU5
import Derived.Test.YtiolnmfaeenlmaaGreatDoorNa
import Derived.Test.YtiolnmfaeenlmaaGreatDoorI8
/- Nodes said over lists. -/
namespace Go.Proofs.YtiolnmfaeenlmaaGreatDoor
open Go Go.RowKit

/-- What stands in a node, over lists. -/
def kidsT : Nat → List Tk → Nat → ByteArray → List Nd → List Nd × List Tk
  | 0, l, _, _, acc => (acc, l)
  | _ + 1, [], _, _, acc => (acc, [])
  | f + 1, t :: r, deep, c, acc =>
    if clB1 t c = true then (acc, r)
    else if clzF t = ⟨#[]⟩ then kidsT f r deep c (addN deep acc (.mk t []))
    else kidsT f (kidsT f r (deep + 1) (clzF t) []).2 deep c (addN deep acc (.mk t (kidsT f r (deep + 1) (clzF t) []).1))
theorem tk_drop {L : List Tk} {a : Nat} (h : a < L.length) : L.drop a = tkAt L a :: L.drop (a + 1) := by
  rw [List.drop_eq_getElem_cons h]
  congr 1
  rw [tkAt, List.getD_eq_getElem?_getD, List.getElem?_eq_getElem h]
  rfl
theorem refK_T (L : List Tk) : ∀ (f a deep : Nat) (c : ByteArray) (acc : List Nd), kidsT f (L.drop a) deep c acc = ((refK f L a deep c acc).1, L.drop (refK f L a deep c acc).2)
  | 0, _, _, _, _ => rfl
  | f + 1, a, deep, c, acc => by
    rcases Nat.lt_or_ge a L.length with h | h
    · rw [tk_drop h, kidsT, refK, if_pos h]
      split
      · rfl
      split
      · exact refK_T L f (a + 1) deep c _
      · rw [refK_T L f (a + 1) (deep + 1)]
        simp only
        rw [refK_T L f]
    · rw [List.drop_eq_nil_of_le h, kidsT, refK, if_neg (by omega), List.drop_eq_nil_of_le h]
def nodeT (f : Nat) (t : Tk) (r : List Tk) (deep : Nat) : Nd × List Tk :=
  if clzF t = ⟨#[]⟩ then (.mk t [], r) else (.mk t (kidsT f r deep (clzF t) []).1, (kidsT f r deep (clzF t) []).2)
/-- Nodes of tokens, with so many steps. -/
def nodesN : Nat → List Tk → List Nd
  | 0, _ => []
  | _ + 1, [] => []
  | f + 1, t :: r => (nodeT r.length t r 1).1 :: nodesN f (nodeT r.length t r 1).2
def nodesT (l : List Tk) : List Nd := nodesN l.length l
theorem allR_N (L : List Tk) : ∀ (f a : Nat), nodesN f (L.drop a) = allR f L a
  | 0, _ => rfl
  | f + 1, a => by
    rcases Nat.lt_or_ge a L.length with h | h
    · have e : nodeT (L.drop (a + 1)).length (tkAt L a) (L.drop (a + 1)) 1 = ((nodeA L a 1).1, L.drop (nodeA L a 1).2) := by
        rw [nodeT, nodeA, List.length_drop, refK_T]
        unfold kidsA
        split <;> rfl
      rw [tk_drop h, nodesN, allR, if_pos h, e]
      simp only
      rw [allR_N L f]
    · rw [List.drop_eq_nil_of_le h, nodesN, allR, if_neg (by omega)]
theorem nodes_T (L : List Tk) : nodesT L = nodesA L 0 := by
  rw [nodesA, ← allR_N, List.drop_zero, nodesT]
  rfl
theorem nodesN_fuel (f f' : Nat) (l : List Tk) (h : l.length ≤ f) (h' : l.length ≤ f') : nodesN f l = nodesN f' l := by
  have h1 := allR_N l f 0
  have h2 := allR_N l f' 0
  rw [List.drop_zero] at h1 h2
  rw [h1, h2, allR_fuel f f' l 0 (by omega) (by omega)]
theorem kidsT_len (f : Nat) (l : List Tk) (deep : Nat) (c : ByteArray) (acc : List Nd) : (kidsT f l deep c acc).2.length ≤ l.length := by
  have h1 := refK_T l f 0 deep c acc
  rw [List.drop_zero] at h1
  rw [h1, List.length_drop]
  omega
theorem nodesT_nil : nodesT [] = [] := rfl
theorem nodesT_leaf (t : Tk) (r : List Tk) (h : clzF t = ⟨#[]⟩) : nodesT (t :: r) = .mk t [] :: nodesT r := by
  rw [nodesT, List.length_cons, nodesN, nodeT, if_pos h]
  rfl
/-- Tokens that open nothing and do not close: each is a node by itself. -/
def leafB (c : ByteArray) (t : Tk) : Bool := !clB1 t c && decide (clzF t = ⟨#[]⟩)
theorem kidsT_leafs (deep : Nat) (c : ByteArray) (hd : deep < 32) : ∀ (ts r : List Tk) (f : Nat) (acc : List Nd), ts.all (leafB c) = true → kidsT (f + ts.length) (ts ++ r) deep c acc = kidsT f r deep c (acc ++ ts.map (fun t => .mk t []))
  | [], r, f, acc, _ => by simp
  | t :: ts, r, f, acc, h => by
    rw [List.all_cons, Bool.and_eq_true] at h
    have h1 := h.1
    rw [leafB, Bool.and_eq_true, decide_eq_true_eq, Bool.not_eq_true'] at h1
    rw [List.length_cons, ← Nat.add_assoc, List.cons_append, kidsT, if_neg (by rw [h1.1]; exact Bool.false_ne_true), if_pos h1.2, kidsT_leafs deep c hd ts r f _ h.2, addN, if_pos hd, List.map_cons, List.append_assoc]
    rfl
/-- A node with plain tokens in it. -/
theorem nodesT_open (t : Tk) (ts : List Tk) (u : Tk) (r : List Tk) (h : clzF t ≠ ⟨#[]⟩) (hts : ts.all (leafB (clzF t)) = true) (hu : clB1 u (clzF t) = true) : nodesT (t :: ts ++ u :: r) = .mk t (ts.map fun t => .mk t []) :: nodesT r := by
  have e : kidsT (ts ++ u :: r).length (ts ++ u :: r) 1 (clzF t) [] = (ts.map (fun t => .mk t []), r) := by
    rw [List.length_append, Nat.add_comm, kidsT_leafs 1 _ (by decide) ts (u :: r) _ [] hts, List.length_cons, kidsT, if_pos hu]
    rfl
  rw [nodesT, List.cons_append, List.length_cons, nodesN, nodeT, if_neg h, e]
  simp only
  rw [nodesN_fuel _ r.length r (by simp; omega) (Nat.le_refl _)]
  rfl
end Go.Proofs.YtiolnmfaeenlmaaGreatDoor

/- nest.All's nodes are the reference's (plain). -/
namespace Go.Proofs.YtiolnmfaeenlmaaGreatDoor
open Go Go.RowKit
set_option maxRecDepth 20000

theorem clz_op {t : Tk} (h : opB t = true) : clzF t = clF t ∧ clzF t ≠ ⟨#[]⟩ := by
  simp only [opB, Bool.or_eq_true, Bool.and_eq_true, decide_eq_true_eq] at h
  rw [clzF, clF]
  rcases h with h | ⟨h, (h2 | h2) | h2⟩
  · simp [h]
  · simp [h, h2]
  · simp [h, h2]
  · simp [h, h2]
theorem clz_no {t : Tk} (h : opB t = false) : clzF t = ⟨#[]⟩ := by
  rw [Bool.eq_false_iff] at h
  simp only [opB, ne_eq, Bool.or_eq_true, Bool.and_eq_true, decide_eq_true_eq, not_or, not_and] at h
  rw [clzF]
  by_cases h19 : t.kind = 19
  · obtain ⟨h2, h3⟩ := h
    have := h3 h19
    simp [h2, this]
  · simp [h.1, h19]
def aft (n : Nd) (ts : List Tk) (r : List Fr) (a : Nat) : Nd × Nat :=
  match r with
  | [] => (n, a)
  | g :: q => oneS ts (putT n (g :: q)) a
theorem putT_len (n : Nd) (st : List Fr) : (putT n st).length = st.length := by cases st <;> rfl
theorem one_end (f : Fr) (r : List Fr) (a : Nat) : oneS [] (f :: r) a = aft (.mk f.tok f.kids) [] r a := by
  rw [oneS.eq_def]
  cases r with
  | nil => rfl
  | cons g q =>
    show (endS (q.length + 2) (f :: g :: q), a) = oneS [] (putT (.mk f.tok f.kids) (g :: q)) a
    rw [oneS.eq_def, endS]
    simp only [putT_len, List.length_cons]
    rfl
theorem putT_top (n : Nd) (f : Fr) (r : List Fr) : putT n (f :: r) = ⟨f.tok, addN (r.length + 1) f.kids n, f.en⟩ :: r := by
  rw [putT, addN]
  split <;> rfl
theorem one_kids : ∀ (F : Nat) (ts : List Tk) (f : Fr) (r : List Fr) (a : Nat), ts.length ≤ F →
    oneS ts (f :: r) a = aft (.mk f.tok (kidsT F ts (r.length + 1) f.en f.kids).1) (kidsT F ts (r.length + 1) f.en f.kids).2 r (a + (ts.length - (kidsT F ts (r.length + 1) f.en f.kids).2.length))
  | F, [], f, r, a, _ => by
    have e : kidsT F [] (r.length + 1) f.en f.kids = (f.kids, []) := by cases F <;> rfl
    rw [e]
    exact one_end f r a
  | 0, _ :: _, _, _, _, h => by rw [List.length_cons] at h; omega
  | F + 1, t :: ts, f, r, a, h => by
    have h' : ts.length ≤ F := by rw [List.length_cons] at h; omega
    cases hc : clB1 t f.en with
    | true =>
      have ho : opB t = false := by
        simp only [clB1, Bool.and_eq_true, decide_eq_true_eq] at hc
        simp [opB, hc.1]
      have hc' : clB t f = true := hc
      rw [kidsT, if_pos hc]
      have e : a + ((t :: ts).length - ts.length) = a + 1 := by rw [List.length_cons]; omega
      simp only [e]
      cases r with
      | nil => exact oneS_cl1 ho hc'
      | cons g q => exact oneS_cl2 ho hc'
    | false =>
      have hc' : clB t f = false := hc
      rw [kidsT, if_neg (by rw [hc]; exact Bool.false_ne_true)]
      cases ho : opB t with
      | false =>
        rw [if_pos (clz_no ho), oneS_in ho hc', putT_top, one_kids F ts _ r (a + 1) h']
        dsimp only
        have hl := kidsT_len F ts (r.length + 1) f.en (addN (r.length + 1) f.kids (.mk t []))
        congr 1
        rw [List.length_cons]
        omega
      | true =>
        obtain ⟨h1, h2⟩ := clz_op ho
        rw [if_neg h2, oneS_open ho, one_kids F ts _ (f :: r) (a + 1) h', ← h1]
        dsimp only
        rw [List.length_cons]
        have hl := kidsT_len F ts (r.length + 1 + 1) (clzF t) []
        generalize kidsT F ts (r.length + 1 + 1) (clzF t) [] = K at hl ⊢
        rw [aft, putT_top, one_kids F K.2 _ r _ (by omega)]
        dsimp only
        have hl2 := kidsT_len F K.2 (r.length + 1) f.en (addN (r.length + 1) f.kids (.mk t K.1))
        congr 1
        rw [List.length_cons]
        omega
theorem one_node (t : Tk) (ts : List Tk) (a : Nat) : oneS (t :: ts) [] a = ((nodeT ts.length t ts 1).1, a + 1 + (ts.length - (nodeT ts.length t ts 1).2.length)) := by
  rw [nodeT]
  cases ho : opB t with
  | false => rw [if_pos (clz_no ho), oneS_leaf ho, Nat.sub_self]
  | true =>
    obtain ⟨h1, h2⟩ := clz_op ho
    rw [if_neg h2, oneS_open ho, one_kids ts.length ts _ [] (a + 1) (Nat.le_refl _), ← h1]
    rfl
theorem node_suf (L : List Tk) (a : Nat) (t : Tk) : ∃ x, (nodeT (L.drop (a + 1)).length t (L.drop (a + 1)) 1).2 = L.drop x ∧ (nodeT (L.drop (a + 1)).length t (L.drop (a + 1)) 1).2.length ≤ (L.drop (a + 1)).length := by
  rw [nodeT]
  split
  · exact ⟨a + 1, rfl, Nat.le_refl _⟩
  · have h := refK_T L (L.drop (a + 1)).length (a + 1) 1 (clzF t) []
    exact ⟨_, by dsimp only; rw [h], kidsT_len _ _ _ _ _⟩
theorem all_N (L : List Tk) : ∀ (n a : Nat), L.length - a ≤ n → allA L a = nodesN n (L.drop a)
  | n, a, hn => by
    rcases Nat.lt_or_ge a L.length with h | h
    · match n, hn with
      | 0, hn => omega
      | n + 1, hn =>
        obtain ⟨x, hx, hl⟩ := node_suf L a (tkAt L a)
        rw [allA_lt h, tk_drop h, one_node, nodesN]
        congr 1
        dsimp only
        rw [List.length_drop] at hl
        have e : L.drop (a + 1 + ((L.drop (a + 1)).length - (nodeT (L.drop (a + 1)).length (tkAt L a) (L.drop (a + 1)) 1).2.length)) = (nodeT (L.drop (a + 1)).length (tkAt L a) (L.drop (a + 1)) 1).2 := by
          rw [List.length_drop] at hx ⊢
          rw [hx] at hl ⊢
          rw [List.length_drop] at hl ⊢
          rcases Nat.lt_or_ge x L.length with h3 | h3
          · congr 1; omega
          · rw [List.drop_eq_nil_of_le h3, List.drop_eq_nil_of_le (by omega)]
        have h5 := all_N L n (a + 1 + ((L.drop (a + 1)).length - (nodeT (L.drop (a + 1)).length (tkAt L a) (L.drop (a + 1)) 1).2.length)) (by omega)
        rw [e] at h5
        exact h5
    · rw [allA_ge h, List.drop_eq_nil_of_le h]
      cases n <;> rfl
theorem allA_nodes (L : List Tk) : allA L 0 = nodesA L 0 := by
  rw [all_N L L.length 0 (by omega), ← nodes_T]
  rfl
end Go.Proofs.YtiolnmfaeenlmaaGreatDoor

/- Declarations and rules said over lists. -/
namespace Go.Proofs.YtiolnmfaeenlmaaGreatDoor
open Go Go.RowKit

theorem nd_drop {l : List Nd} {i : Nat} (h : i < l.length) : l.drop i = ndAt l i :: l.drop (i + 1) := by
  rw [List.drop_eq_getElem_cons h, ndAt_get h]
theorem dropW_drop {α : Type} (p : α → Bool) : ∀ l : List α, l.drop (l.takeWhile p).length = l.dropWhile p
  | [] => rfl
  | a :: r => by
    rw [List.takeWhile_cons, List.dropWhile_cons]
    split
    · rw [List.length_cons, List.drop_succ_cons, dropW_drop p r]
    · rfl
theorem take_tw {α : Type} (p : α → Bool) : ∀ l : List α, l.take (l.takeWhile p).length = l.takeWhile p
  | [] => rfl
  | a :: r => by
    rw [List.takeWhile_cons]
    split
    · rw [List.length_cons, List.take_succ_cons, take_tw p r]
    · rfl
theorem runE_drop (p : Nd → Bool) (l : List Nd) (i : Nat) : l.drop (runE p l i) = (l.drop i).dropWhile p := by
  rw [runE, ← List.drop_drop, dropW_drop]
theorem take_runE (p : Nd → Bool) (l : List Nd) (i : Nat) : (l.take (runE p l i)).drop i = (l.drop i).takeWhile p := by
  rw [runE, List.drop_take, Nat.add_sub_cancel_left, take_tw]
def nsB (n : Nd) : Bool := !semB n
/-- What a segment without semicolons declares. -/
def oneQ (n : Nd) (q : List Nd) : List Dc :=
  if n.tok.kind = 1 then
    (match q.dropWhile whN with
      | [] => []
      | c :: v => if c.tok.kind = 16 then (if mayF (valF v).1 then [⟨nameS n.tok.text, (valF v).1, (valF v).2⟩] else []) else [])
  else []
theorem oneD_Q {l : List Nd} {i : Nat} (hi : i < l.length) (hs : nsB (ndAt l i) = true) : oneD l i (runE nsB l i) = oneQ (ndAt l i) ((l.drop (i + 1)).takeWhile nsB) := by
  have hk : i < runE nsB l i := runE_gt hi hs
  have hkl : runE nsB l i ≤ l.length := runE_le (by omega)
  have hq : (l.take (runE nsB l i)).drop (i + 1) = (l.drop (i + 1)).takeWhile nsB := by
    have h1 := take_runE nsB l i
    rw [nd_drop hi, List.takeWhile_cons, if_pos hs] at h1
    have h2 : ((l.take (runE nsB l i)).drop i).drop 1 = (l.drop (i + 1)).takeWhile nsB := by rw [h1]; rfl
    rw [← h2, List.drop_drop]
  have hlt : (l.take (runE nsB l i)).length = runE nsB l i := by rw [List.length_take]; omega
  rw [oneD, oneQ, ← hq, ← runE_drop]
  have hc0 := runE_le (p := whN) (l := l.take (runE nsB l i)) (i := i + 1) (by omega)
  rw [hlt] at hc0
  have hat : ∀ j, j < runE nsB l i → ndAt l j = ndAt (l.take (runE nsB l i)) j := fun j hj => (ndAt_take hj).symm
  generalize hkk : runE nsB l i = k at hk hkl hlt hc0 hat ⊢
  generalize hcc : runE whN (l.take k) (i + 1) = c at hc0 ⊢
  by_cases h1 : (ndAt l i).tok.kind = 1
  · rw [decide_eq_true h1, Bool.true_and, if_pos h1]
    rcases Nat.lt_or_ge c k with h2 | h2
    · rw [nd_drop (l := l.take k) (i := c) (by omega), decide_eq_true h2, Bool.true_and, hat c h2]
      simp only
      by_cases h3 : (ndAt (l.take k) c).tok.kind = 16
      · rw [if_pos h3, if_pos (decide_eq_true h3)]
      · rw [if_neg h3, if_neg (by rw [decide_eq_false h3]; exact Bool.false_ne_true)]
    · have hnil : (l.take k).drop c = [] := List.drop_eq_nil_of_le (by omega)
      rw [decide_eq_false (by omega), Bool.false_and, if_neg Bool.false_ne_true, hnil]
  · rw [decide_eq_false h1, Bool.false_and, if_neg h1, if_neg Bool.false_ne_true]
def nabB (n : Nd) : Bool := !semB n && !blkB n
/-- Declarations of nodes, with so many steps. -/
def decQ : Nat → List Nd → List Dc
  | 0, _ => []
  | _ + 1, [] => []
  | f + 1, n :: r =>
    if (decide (n.tok.kind = 13) || decide (n.tok.kind = 17)) = true then decQ f r
    else if n.tok.kind = 3 then decQ f (((n :: r).dropWhile nabB).drop 1)
    else oneQ n (r.takeWhile nsB) ++ decQ f ((n :: r).dropWhile nsB)
theorem decR_Q (l : List Nd) : ∀ (f i : Nat), decQ f (l.drop i) = decR f l i
  | 0, _ => rfl
  | f + 1, i => by
    rcases Nat.lt_or_ge i l.length with h | h
    · rw [nd_drop h, decQ, decR, if_pos h]
      split
      · exact decR_Q l f (i + 1)
      rename_i h1
      split
      · rw [← nd_drop h]
        have e : ((l.drop i).dropWhile nabB).drop 1 = l.drop (runE (fun n => !semB n && !blkB n) l i + 1) := by
          rw [← List.drop_drop, runE_drop]
          rfl
        rw [e]
        exact decR_Q l f _
      · have hs : nsB (ndAt l i) = true := by
          simp only [Bool.or_eq_true, decide_eq_true_eq, not_or] at h1
          simp only [nsB, semB, decide_eq_false h1.2]; rfl
        rw [← oneD_Q h hs, ← nd_drop h, ← runE_drop, decR_Q l f]
        rfl
    · rw [List.drop_eq_nil_of_le h, decQ, decR, if_neg (by omega)]
def decLs (l : List Nd) : List Dc := decQ l.length l
theorem decA_Ls (l : List Nd) : decA l 0 = decLs l := by
  rw [decA, ← decR_Q, List.drop_zero]
  rfl
theorem decQ_fuel (f f' : Nat) (l : List Nd) (h : l.length ≤ f) (h' : l.length ≤ f') : decQ f l = decQ f' l := by
  have h1 := decR_Q l f 0
  have h2 := decR_Q l f' 0
  rw [List.drop_zero] at h1 h2
  rw [h1, h2, decR_fuel f f' l 0 (by omega) (by omega)]
theorem decLs_nil : decLs [] = [] := rfl
theorem decLs_skip (n : Nd) (r : List Nd) (h : (decide (n.tok.kind = 13) || decide (n.tok.kind = 17)) = true) : decLs (n :: r) = decLs r := by
  rw [decLs, List.length_cons, decQ, if_pos h]
  rfl
/-- A segment, its semicolon, and what is behind. -/
theorem decLs_seg (n : Nd) (q r : List Nd) (s : Nd) (hn : (decide (n.tok.kind = 13) || decide (n.tok.kind = 17)) = false) (h3 : n.tok.kind ≠ 3) (hq : q.all nsB = true) (hs : semB s = true) : decLs (n :: q ++ s :: r) = oneQ n q ++ decLs r := by
  have hns : nsB n = true := by
    simp only [Bool.or_eq_false_iff, decide_eq_false_iff_not] at hn
    simp only [nsB, semB, decide_eq_false hn.2]; rfl
  have hss : nsB s = false := by rw [nsB, hs]; rfl
  have t : ∀ q : List Nd, q.all nsB = true → (q ++ s :: r).takeWhile nsB = q ∧ (q ++ s :: r).dropWhile nsB = s :: r := by
    intro q
    induction q with
    | nil => intro _; rw [List.nil_append, List.takeWhile_cons, List.dropWhile_cons, hss]; exact ⟨rfl, rfl⟩
    | cons a q ih =>
      intro h
      rw [List.all_cons, Bool.and_eq_true] at h
      rw [List.cons_append, List.takeWhile_cons, List.dropWhile_cons, h.1, if_pos rfl, if_pos rfl, (ih h.2).1, (ih h.2).2]
      exact ⟨rfl, rfl⟩
  rw [decLs, List.cons_append, List.length_cons, decQ, if_neg (by rw [hn]; exact Bool.false_ne_true), if_neg h3, List.dropWhile_cons, hns, if_pos rfl, (t q hq).1, (t q hq).2]
  congr 1
  rw [decQ_fuel _ (s :: r).length (s :: r) (by first | (simp; done) | (simp; omega)) (Nat.le_refl _)]
  exact decLs_skip s r (by rw [Bool.or_eq_true]; right; exact hs)
/-- Rules of nodes, with so many steps. -/
def shtQ : Nat → List Nd → List Rl
  | 0, _ => []
  | _ + 1, [] => []
  | f + 1, n :: r =>
    if skB n = true then shtQ f r
    else (match (if atKB n = true then r else n :: r).dropWhile (goB (atKB n)) with
      | [] => if atKB n = true then [⟨if atKB n = true then lowS n.tok.text else ⟨#[]⟩, trimF ((if atKB n = true then r else n :: r).takeWhile (goB (atKB n))), false, []⟩] else []
      | m :: q => (if (atKB n || blkB m) = true then [⟨if atKB n = true then lowS n.tok.text else ⟨#[]⟩, trimF ((if atKB n = true then r else n :: r).takeWhile (goB (atKB n))), blkB m, if blkB m = true then decA m.kids 0 else []⟩] else []) ++ shtQ f q)
def shtLs (l : List Nd) : List Rl := shtQ l.length l
end Go.Proofs.YtiolnmfaeenlmaaGreatDoor
