import Derived.Test.YtklodolkgdmhoaaJa
import Derived.Test.YtklodolkgdmhoaaTy
import Derived.Test.YtklodolkgdmhoaaG5
/- dom: tables and trees, as plain lists. -/
namespace Go.Proofs.Ytklodolkgdmhoaa
open Go Go.RowKit

def lowB (b : UInt8) : UInt8 := if 65 ≤ b.toNat ∧ b.toNat ≤ 90 then b + 32 else b
def lowL (l : List UInt8) : List UInt8 := l.map lowB
def lowS (s : ByteArray) : ByteArray := ⟨(lowL s.data.toList).toArray⟩
theorem lowB_up {b : UInt8} (h : 65 ≤ b.toNat ∧ b.toNat ≤ 90) : ((lowB b).toNat : Int) = (b.toNat : Int) + 32 := by
  rw [lowB, if_pos h, UInt8.toNat_add]
  simp
  omega
theorem lowB_no {b : UInt8} (h : ¬ (65 ≤ b.toNat ∧ b.toNat ≤ 90)) : lowB b = b := by rw [lowB, if_neg h]
theorem getD_byte {s : ByteArray} {i : Nat} (h : i < s.data.toList.length) : s.data.toList.getD i 0 = s.data.toList[i] := by rw [List.getD_eq_getElem?_getD, List.getElem?_eq_getElem h]; rfl
theorem lowS_size (s : ByteArray) : (lowS s).size = s.size := by
  rw [lowS, ← str_size]
  simp [lowL]

/-- An attribute; a node of a table; a node of a tree. -/
structure At where
  name : ByteArray
  value : ByteArray
structure Rw where
  parent : Int
  tag : ByteArray
  text : ByteArray
  attrs : List At
structure Nt where
  r : Rw
  kids : List Nat
  depth : Nat
instance : Inhabited At := ⟨⟨⟨#[]⟩, ⟨#[]⟩⟩⟩
instance : Inhabited Rw := ⟨⟨0, ⟨#[]⟩, ⟨#[]⟩, []⟩⟩
instance : Inhabited Nt := ⟨⟨default, [], 0⟩⟩
def nD (n : Nat) : D := iD n
def sD (s : ByteArray) : D := .val (.string s)
def atD (a : At) : D := .ag [.val (.string a.name), .val (.string a.value)]
def atA (a : At) : AV := .agg [.val (.string a.name), .val (.string a.value)]
def rwD (r : Rw) : D := .ag [.val (.int .i64 r.parent), .val (.string r.tag), .val (.string r.text), .sl 2 (r.attrs.map atD)]
def rwC (r : Rw) : List AV := [.val (.int .i64 r.parent), .val (.string r.tag), .val (.string r.text), .sl 2 (r.attrs.map atD)]
def rwA (r : Rw) : AV := .agg (rwC r)
def ntD (n : Nt) : D := .ag [.val (.int .i64 n.r.parent), .val (.string n.r.tag), .val (.string n.r.text), .sl 2 (n.r.attrs.map atD), .sl 1 (n.kids.map nD), .val (.int .i64 n.depth)]
def ntB (n : Nt) : Bl := ⟨rwC n.r, n.kids.map nD, [.val (.int .i64 n.depth)]⟩
theorem ntB_ok (n : Nt) : (ntB n).ok 4 1 := ⟨rfl, rfl, rfl, rfl⟩
theorem ntB_all (gs : List Nt) : ∀ f ∈ gs.map ntB, f.ok 4 1 := by
  intro f hf
  obtain ⟨n, _, rfl⟩ := List.mem_map.1 hf
  exact ntB_ok n
def emS : ByteArray := ⟨#[]⟩
/-- Each attribute once, its name small. -/
def lowA (none_ : Bool) : List At → List At → List At
  | acc, [] => acc
  | acc, a :: r => lowA none_ (if acc.any (fun x => decide (x.name = lowS a.name)) || none_ then acc else acc ++ [⟨lowS a.name, a.value⟩]) r
def lowR (r : Rw) : Rw := ⟨r.parent, lowS r.tag, r.text, lowA (decide (lowS r.tag = emS)) [] r.attrs⟩
/-- A node more: its place is put to its parent's kids. -/
def addKid (gs : List Nt) (p i : Nat) : List Nt := gs.set p { gs.getD p default with kids := (gs.getD p default).kids ++ [i] }
def okP (l : List Rw) (i : Nat) (r : Rw) : Bool := decide (0 ≤ r.parent) && decide (r.parent < i) && !decide ((l.getD r.parent.toNat default).tag = emS)
def newG (l : List Rw) : List Rw → List Nt → Option (List Nt)
  | [], gs => some gs
  | r :: rest, gs =>
    if gs.length = 0 then newG l rest [⟨lowR r, [], 1⟩]
    else if okP l gs.length r = true then
      (if (gs.getD r.parent.toNat default).depth + 1 ≤ 64 then newG l rest (addKid gs r.parent.toNat gs.length ++ [⟨lowR r, [], (gs.getD r.parent.toNat default).depth + 1⟩]) else none)
    else none
def okL (l : List Rw) : Bool := decide (1 ≤ l.length) && decide (l.length ≤ 1000) && decide ((l.getD 0 default).parent = -1) && !decide ((l.getD 0 default).tag = emS)
def newF (l : List Rw) : Option (List Nt) := if okL l = true then newG l l [] else none
def smA (a : At) : Prop := a.name.size ≤ 1099511627776 ∧ a.value.size ≤ 1099511627776
def smR (r : Rw) : Prop := r.tag.size ≤ 1099511627776 ∧ r.attrs.length ≤ 1099511627776 ∧ ∀ a ∈ r.attrs, smA a
end Go.Proofs.Ytklodolkgdmhoaa

/- dom: what a table's nodes are, in plain words. -/
namespace Go.Proofs.Ytklodolkgdmhoaa
open Go Go.RowKit

def rwAt (l : List Rw) (i : Nat) : Rw := l.getD i default
def ntAt (gs : List Nt) (i : Nat) : Nt := gs.getD i default
def kidB (l : List Rw) (i : Nat) (k : Nat) : Bool := decide (k ≠ 0) && decide ((rwAt l k).parent = i)
/-- What the nodes are that were made of a table's first rows. -/
structure Good (l : List Rw) (gs : List Nt) : Prop where
  len : gs.length ≤ l.length
  r : ∀ i, i < gs.length → (ntAt gs i).r = lowR (rwAt l i)
  par : ∀ i, 0 < i → i < gs.length → 0 ≤ (rwAt l i).parent ∧ (rwAt l i).parent < i ∧ (rwAt l (rwAt l i).parent.toNat).tag ≠ emS
  kids : ∀ i, i < gs.length → (ntAt gs i).kids = (List.range gs.length).filter (kidB l i)
  dep0 : 0 < gs.length → (ntAt gs 0).depth = 1
  dep : ∀ i, 0 < i → i < gs.length → (ntAt gs i).depth = (ntAt gs (rwAt l i).parent.toNat).depth + 1
  dle : ∀ i, i < gs.length → (ntAt gs i).depth ≤ 64
theorem rwAt_drop {l rest : List Rw} {r : Rw} {n : Nat} (h : l.drop n = r :: rest) : rwAt l n = r ∧ n < l.length ∧ l.drop (n + 1) = rest := by
  have hn : n < l.length := by
    rcases Nat.lt_or_ge n l.length with h1 | h1
    · exact h1
    · rw [List.drop_eq_nil_of_le h1] at h; cases h
  rw [List.drop_eq_getElem_cons hn] at h
  injection h with h1 h2
  refine ⟨?_, hn, h2⟩
  rw [rwAt, List.getD_eq_getElem?_getD, List.getElem?_eq_getElem hn]
  exact h1
theorem ntAt_app {gs : List Nt} {g : Nt} {i : Nat} (h : i < gs.length) : ntAt (gs ++ [g]) i = ntAt gs i := by
  simp only [ntAt, List.getD_eq_getElem?_getD]
  rw [List.getElem?_append_left h]
theorem ntAt_last {gs : List Nt} {g : Nt} : ntAt (gs ++ [g]) gs.length = g := by
  simp only [ntAt, List.getD_eq_getElem?_getD]
  rw [List.getElem?_append_right (Nat.le_refl _)]; simp
theorem addKid_len (gs : List Nt) (p i : Nat) : (addKid gs p i).length = gs.length := List.length_set
theorem addKid_at {gs : List Nt} {p i j : Nat} (hp : p < gs.length) : ntAt (addKid gs p i) j = if j = p then { ntAt gs p with kids := (ntAt gs p).kids ++ [i] } else ntAt gs j := by
  simp only [ntAt, addKid, List.getD_eq_getElem?_getD]
  split
  · rename_i h; subst h; rw [List.getElem?_set_self hp]; rfl
  · rename_i h; rw [List.getElem?_set_ne (Ne.symm h)]
theorem okP_iff {l : List Rw} {i : Nat} {r : Rw} : okP l i r = true ↔ 0 ≤ r.parent ∧ r.parent < i ∧ (rwAt l r.parent.toNat).tag ≠ emS := by
  simp [okP, rwAt, and_assoc]
theorem range_filter_succ (p : Nat → Bool) (n : Nat) : (List.range (n + 1)).filter p = (List.range n).filter p ++ (if p n then [n] else []) := by
  rw [List.range_succ, List.filter_append]
  congr 1
  simp only [List.filter_cons, List.filter_nil]
theorem range_filter_none {p : Nat → Bool} {n : Nat} (h : ∀ k, k < n → p k = false) : (List.range n).filter p = [] := by
  rw [List.filter_eq_nil_iff]
  intro k hk
  rw [h k (List.mem_range.1 hk)]; simp
theorem good_step {l : List Rw} {gs : List Nt} (hg : Good l gs) (hn : gs.length < l.length) (h0 : 0 < gs.length) (hp : okP l gs.length (rwAt l gs.length) = true)
    (hd : (ntAt gs (rwAt l gs.length).parent.toNat).depth + 1 ≤ 64) : Good l (addKid gs (rwAt l gs.length).parent.toNat gs.length ++ [⟨lowR (rwAt l gs.length), [], (ntAt gs (rwAt l gs.length).parent.toNat).depth + 1⟩]) := by
  obtain ⟨p0, p1, p2⟩ := okP_iff.1 hp
  have hpl : (rwAt l gs.length).parent.toNat < gs.length := by omega
  generalize hP : (rwAt l gs.length).parent.toNat = P at *
  have hL : (addKid gs P gs.length ++ [⟨lowR (rwAt l gs.length), [], (ntAt gs P).depth + 1⟩] : List Nt).length = gs.length + 1 := by rw [List.length_append, addKid_len]; rfl
  have hat : ∀ i, i < gs.length → ntAt (addKid gs P gs.length ++ [⟨lowR (rwAt l gs.length), [], (ntAt gs P).depth + 1⟩]) i = if i = P then { ntAt gs P with kids := (ntAt gs P).kids ++ [gs.length] } else ntAt gs i := fun i hi => by
    rw [ntAt_app (by rw [addKid_len]; exact hi), addKid_at hpl]
  have hla : ntAt (addKid gs P gs.length ++ [⟨lowR (rwAt l gs.length), [], (ntAt gs P).depth + 1⟩]) gs.length = ⟨lowR (rwAt l gs.length), [], (ntAt gs P).depth + 1⟩ := by
    have := @ntAt_last (addKid gs P gs.length) ⟨lowR (rwAt l gs.length), [], (ntAt gs P).depth + 1⟩
    rw [addKid_len] at this
    exact this
  have hdep : ∀ i, i < gs.length → (ntAt (addKid gs P gs.length ++ [⟨lowR (rwAt l gs.length), [], (ntAt gs P).depth + 1⟩]) i).depth = (ntAt gs i).depth := fun i hi => by
    rw [hat i hi]; split
    · rename_i h; rw [h]
    · rfl
  have hr : ∀ i, i < gs.length → (ntAt (addKid gs P gs.length ++ [⟨lowR (rwAt l gs.length), [], (ntAt gs P).depth + 1⟩]) i).r = (ntAt gs i).r := fun i hi => by
    rw [hat i hi]; split
    · rename_i h; rw [h]
    · rfl
  refine ⟨by rw [hL]; omega, ?_, ?_, ?_, ?_, ?_, ?_⟩ <;> rw [hL]
  · intro i hi
    rcases Nat.lt_succ_iff_lt_or_eq.1 hi with h | h
    · rw [hr i h, hg.r i h]
    · subst h; rw [hla]
  · intro i h1 hi
    rcases Nat.lt_succ_iff_lt_or_eq.1 hi with h | h
    · exact hg.par i h1 h
    · subst h; exact ⟨p0, p1, by rw [hP]; exact p2⟩
  · intro i hi
    rw [range_filter_succ]
    have hkb : kidB l i gs.length = decide (i = P) := by
      rw [kidB, show decide (gs.length ≠ 0) = true from decide_eq_true (by omega), Bool.true_and]
      exact decide_eq_decide.2 (by omega)
    rw [hkb]
    rcases Nat.lt_succ_iff_lt_or_eq.1 hi with h | h
    · rw [hat i h]
      by_cases e : i = P
      · subst e; rw [if_pos rfl]; simp [hg.kids _ h]
      · rw [if_neg e, hg.kids i h]; simp [e]
    · subst h
      rw [hla]
      have e : ¬ gs.length = P := by omega
      rw [range_filter_none]
      · simp [e]
      · intro k hk
        rw [kidB]
        by_cases hk0 : k = 0
        · simp [hk0]
        · have := hg.par k (by omega) hk
          rw [decide_eq_false (show ¬ (rwAt l k).parent = gs.length by omega)]; simp
  · intro _
    rw [hdep 0 h0]; exact hg.dep0 h0
  · intro i h1 hi
    rcases Nat.lt_succ_iff_lt_or_eq.1 hi with h | h
    · have := hg.par i h1 h
      rw [hdep i h, hdep _ (by omega)]; exact hg.dep i h1 h
    · subst h; rw [hla, hP, hdep _ hpl]
  · intro i hi
    rcases Nat.lt_succ_iff_lt_or_eq.1 hi with h | h
    · rw [hdep i h]; exact hg.dle i h
    · subst h; rw [hla]; exact hd
theorem good_all {l : List Rw} : ∀ {rest : List Rw} {gs gs' : List Nt}, l.drop gs.length = rest → Good l gs → newG l rest gs = some gs' → Good l gs' ∧ gs'.length = l.length
  | [], gs, gs', hr, hg, h => by
    rw [newG] at h
    cases h
    have := congrArg List.length hr
    rw [List.length_drop, List.length_nil] at this
    exact ⟨hg, by have := hg.len; omega⟩
  | r :: rest, gs, gs', hr, hg, h => by
    obtain ⟨h1, h2, h3⟩ := rwAt_drop hr
    rw [newG] at h
    split at h
    · rename_i h0
      have hgn : gs = [] := List.eq_nil_of_length_eq_zero h0
      subst hgn
      have hg1 : Good l [⟨lowR r, [], 1⟩] := by
        refine ⟨h2, ?_, ?_, ?_, fun _ => rfl, ?_, ?_⟩
        · intro i hi; have : i = 0 := by simpa using hi
          subst this; rw [show rwAt l 0 = r from h1]; rfl
        · intro i h0 hi; simp at hi; omega
        · intro i hi
          have : i = 0 := by simpa using hi
          subst this
          show [] = _
          simp [List.range_succ, kidB]
        · intro i h0 hi; simp at hi; omega
        · intro i hi; have : i = 0 := by simpa using hi
          subst this; exact (by decide : (1 : Nat) ≤ 64)
      exact good_all (gs := [⟨lowR r, [], 1⟩]) h3 hg1 h
    · rename_i h0
      rw [← h1] at h
      split at h
      · rename_i hp
        split at h
        · rename_i hd
          refine good_all ?_ (good_step hg h2 (by omega) hp hd) h
          rw [List.length_append, addKid_len]; exact h3
        · cases h
      · cases h
theorem good_nil (l : List Rw) : Good l [] := by
  refine ⟨Nat.zero_le _, ?_, ?_, ?_, ?_, ?_, ?_⟩
  all_goals intros
  all_goals (rename_i h; first | (simp at h; done) | skip)
theorem good_new {l : List Rw} {gs : List Nt} (h : newF l = some gs) : Good l gs ∧ gs.length = l.length ∧ okL l = true := by
  rw [newF] at h
  split at h
  · rename_i hk
    have := good_all (gs := []) rfl (good_nil l) h
    exact ⟨this.1, this.2, hk⟩
  · cases h
end Go.Proofs.Ytklodolkgdmhoaa

/- dom: what stands in a node, and the order, in plain words. -/
namespace Go.Proofs.Ytklodolkgdmhoaa
open Go Go.RowKit

/-- The first one of a node and those it stands in that is not behind top: is it top? -/
def undF (l : List Rw) : Nat → Nat → Nat → Bool
  | 0, i, top => decide (i = top)
  | n + 1, i, top => if i ≤ top then decide (i = top) else undF l n (rwAt l i).parent.toNat top
def under (l : List Rw) (i top : Nat) : Bool := undF l i i top
def okPar (l : List Rw) : Prop := ∀ i, 0 < i → i < l.length → 0 ≤ (rwAt l i).parent ∧ (rwAt l i).parent < i
theorem undF_fuel {l : List Rw} (hp : okPar l) (top : Nat) : ∀ (n m i : Nat), i < l.length → i ≤ n → i ≤ m → undF l n i top = undF l m i top
  | 0, 0, _, _, _, _ => rfl
  | 0, m + 1, i, _, h, _ => by
    have : i = 0 := by omega
    subst this
    rw [undF, undF, if_pos (Nat.zero_le _)]
  | n + 1, 0, i, _, _, h => by
    have : i = 0 := by omega
    subst this
    rw [undF, undF, if_pos (Nat.zero_le _)]
  | n + 1, m + 1, i, hi, h1, h2 => by
    rw [undF, undF]
    split
    · rfl
    · have := hp i (by omega) hi
      exact undF_fuel hp top n m _ (by omega) (by omega) (by omega)
theorem under_le {l : List Rw} {i top : Nat} (h : i ≤ top) : under l i top = decide (i = top) := by
  rw [under]
  cases i with
  | zero => rfl
  | succ i => rw [undF, if_pos h]
theorem under_gt {l : List Rw} (hp : okPar l) {i top : Nat} (hi : i < l.length) (h : top < i) : under l i top = under l (rwAt l i).parent.toNat top := by
  have h1 := hp i (by omega) hi
  rw [under, under]
  cases i with
  | zero => omega
  | succ i =>
    rw [undF, if_neg (by omega)]
    exact undF_fuel hp top _ _ _ (by omega) (by omega) (by omega)
theorem under_ge {l : List Rw} (hp : okPar l) {i top : Nat} (hi : i < l.length) (h : under l i top = true) : top ≤ i := by
  rcases Nat.lt_or_ge i top with h1 | h1
  · rw [under_le (by omega)] at h
    have := of_decide_eq_true h
    omega
  · exact h1
theorem under_self (l : List Rw) (i : Nat) : under l i i = true := by rw [under_le (Nat.le_refl _)]; exact decide_eq_true rfl
theorem under_trans {l : List Rw} (hp : okPar l) {i b : Nat} (hb : b < l.length) (h2 : under l b i = true) : ∀ (n k : Nat), k ≤ n → k < l.length → under l k b = true → under l k i = true := by
  intro n
  induction n with
  | zero =>
    intro k hk hl h
    have : k = 0 := by omega
    subst this
    rw [under_le (Nat.zero_le _)] at h
    have := of_decide_eq_true h
    rw [this]; exact h2
  | succ n ih =>
    intro k hk hl h
    rcases Nat.lt_or_ge b k with h1 | h1
    · have hib := under_ge hp hb h2
      have := hp k (by omega) hl
      rw [under_gt hp hl h1] at h
      rw [under_gt hp hl (by omega)]
      exact ih _ (by omega) (by omega) h
    · rw [under_le h1] at h
      rw [of_decide_eq_true h]; exact h2
/-- Of two that one stands in, the lesser one holds the greater one. -/
theorem under_two {l : List Rw} (hp : okPar l) {a b : Nat} (hab : a ≤ b) : ∀ (n k : Nat), k ≤ n → k < l.length → under l k a = true → under l k b = true → under l b a = true := by
  intro n
  induction n with
  | zero =>
    intro k hk hl h1 h2
    have : k = 0 := by omega
    subst this
    rw [under_le (Nat.zero_le _)] at h2
    rw [← of_decide_eq_true h2]; exact h1
  | succ n ih =>
    intro k hk hl h1 h2
    rcases Nat.lt_or_ge b k with h3 | h3
    · rw [under_gt hp hl h3] at h2
      rw [under_gt hp hl (by omega)] at h1
      have := hp k (by omega) hl
      exact ih _ (by omega) (by omega) h1 h2
    · rw [under_le h3] at h2
      rw [← of_decide_eq_true h2]; exact h1
def kidsP (l : List Rw) (i : Nat) : List Nat := (List.range l.length).filter (kidB l i)
theorem mem_kidsP {l : List Rw} {i k : Nat} : k ∈ kidsP l i ↔ k < l.length ∧ 0 < k ∧ (rwAt l k).parent = i := by
  simp [kidsP, kidB, Nat.pos_iff_ne_zero]
def preF (l : List Rw) : Nat → Nat → List Nat
  | 0, _ => []
  | n + 1, i => i :: (kidsP l i).flatMap (preF l n)
def walkP (l : List Rw) (i : Nat) : List Nat := preF l (l.length - i) i
theorem flatMap_congr {α β : Type} {f g : α → List β} : ∀ {l : List α}, (∀ x ∈ l, f x = g x) → l.flatMap f = l.flatMap g
  | [], _ => rfl
  | x :: r, h => by rw [List.flatMap_cons, List.flatMap_cons, h x List.mem_cons_self, flatMap_congr fun y hy => h y (List.mem_cons_of_mem _ hy)]
theorem preF_fuel {l : List Rw} (hp : okPar l) : ∀ (n m i : Nat), i < l.length → l.length - i ≤ n → l.length - i ≤ m → preF l n i = preF l m i
  | 0, _, i, h, h1, _ => by omega
  | _ + 1, 0, i, h, _, h1 => by omega
  | n + 1, m + 1, i, h, h1, h2 => by
    rw [preF, preF]
    congr 1
    refine flatMap_congr fun k hk => ?_
    obtain ⟨k1, k2, k3⟩ := mem_kidsP.1 hk
    have := hp k k2 k1
    exact preF_fuel hp n m k k1 (by omega) (by omega)
theorem walkP_eq {l : List Rw} (hp : okPar l) {i : Nat} (hi : i < l.length) : walkP l i = i :: (kidsP l i).flatMap (walkP l) := by
  rw [walkP]
  obtain ⟨n, hn⟩ : ∃ n, l.length - i = n + 1 := ⟨l.length - i - 1, by omega⟩
  rw [hn, preF]
  congr 1
  refine flatMap_congr fun k hk => ?_
  obtain ⟨k1, k2, k3⟩ := mem_kidsP.1 hk
  have := hp k k2 k1
  exact preF_fuel hp _ _ k k1 (by omega) (Nat.le_refl _)
theorem mem_walk {l : List Rw} (hp : okPar l) : ∀ (n i : Nat), l.length - i ≤ n → i < l.length → ∀ k, k ∈ walkP l i ↔ k < l.length ∧ under l k i = true := by
  intro n
  induction n with
  | zero => intro i h hi; omega
  | succ n ih =>
    intro i h hi k
    rw [walkP_eq hp hi, List.mem_cons, List.mem_flatMap]
    constructor
    · rintro (rfl | ⟨b, hb, hk⟩)
      · exact ⟨hi, under_self l _⟩
      · obtain ⟨k1, k2, k3⟩ := mem_kidsP.1 hb
        have hbb := hp b k2 k1
        obtain ⟨q1, q2⟩ := (ih b (by omega) k1 k).1 hk
        refine ⟨q1, under_trans hp k1 ?_ k k (Nat.le_refl _) q1 q2⟩
        rw [under_gt hp k1 (by omega), k3]; exact under_self l _
    · rintro ⟨hk, hu⟩
      -- climb from k to the kid of i
      have climb : ∀ (m k : Nat), k ≤ m → k < l.length → under l k i = true → k = i ∨ ∃ b, b ∈ kidsP l i ∧ under l k b = true := by
        intro m
        induction m with
        | zero =>
          intro k h1 h2 h3
          have : k = 0 := by omega
          subst this
          rw [under_le (Nat.zero_le _)] at h3
          exact .inl (of_decide_eq_true h3)
        | succ m ihm =>
          intro k h1 h2 h3
          rcases Nat.lt_or_ge i k with h4 | h4
          · have hk' := hp k (by omega) h2
            have h5 := h3
            rw [under_gt hp h2 h4] at h5
            rcases ihm _ (by omega) (by omega) h5 with h6 | ⟨b, h6, h7⟩
            · exact .inr ⟨k, mem_kidsP.2 ⟨h2, by omega, by omega⟩, under_self l k⟩
            · refine .inr ⟨b, h6, ?_⟩
              have := under_ge hp (by omega) h7
              rw [under_gt hp h2 (by omega)]; exact h7
          · rw [under_le h4] at h3
            exact .inl (of_decide_eq_true h3)
      rcases climb k k (Nat.le_refl _) hk hu with h6 | ⟨b, h6, h7⟩
      · exact .inl h6
      · obtain ⟨k1, k2, k3⟩ := mem_kidsP.1 h6
        have hbb := hp b k2 k1
        exact .inr ⟨b, h6, (ih b (by omega) k1 k).2 ⟨hk, h7⟩⟩
theorem nodup_flatMap {α β : Type} {f : α → List β} : ∀ {l : List α}, l.Nodup → (∀ x ∈ l, (f x).Nodup) → (∀ x ∈ l, ∀ y ∈ l, x ≠ y → ∀ z, z ∈ f x → z ∈ f y → False) → (l.flatMap f).Nodup
  | [], _, _, _ => List.nodup_nil
  | x :: r, h, h1, h2 => by
    rw [List.flatMap_cons, List.nodup_append]
    obtain ⟨n1, n2⟩ := List.nodup_cons.1 h
    refine ⟨h1 x List.mem_cons_self, nodup_flatMap n2 (fun y hy => h1 y (List.mem_cons_of_mem _ hy)) fun y hy z hz => h2 y (List.mem_cons_of_mem _ hy) z (List.mem_cons_of_mem _ hz), ?_⟩
    intro a ha b hb e
    subst e
    obtain ⟨y, hy, hyb⟩ := List.mem_flatMap.1 hb
    exact h2 x List.mem_cons_self y (List.mem_cons_of_mem _ hy) (fun e => n1 (e ▸ hy)) a ha hyb
theorem kidsP_nodup (l : List Rw) (i : Nat) : (kidsP l i).Nodup := List.Pairwise.filter _ List.nodup_range
theorem walk_nodup {l : List Rw} (hp : okPar l) : ∀ (n i : Nat), l.length - i ≤ n → i < l.length → (walkP l i).Nodup := by
  intro n
  induction n with
  | zero => intro i h hi; omega
  | succ n ih =>
    intro i h hi
    rw [walkP_eq hp hi, List.nodup_cons]
    have hk : ∀ b ∈ kidsP l i, b < l.length ∧ i < b := fun b hb => by
      obtain ⟨k1, k2, k3⟩ := mem_kidsP.1 hb
      have := hp b k2 k1
      exact ⟨k1, by omega⟩
    refine ⟨fun hm => ?_, nodup_flatMap (kidsP_nodup l i) (fun b hb => ih b (by have := hk b hb; omega) (hk b hb).1) fun a ha b hb hab z hza hzb => ?_⟩
    · obtain ⟨b, hb, hm⟩ := List.mem_flatMap.1 hm
      obtain ⟨b1, b2⟩ := hk b hb
      have := under_ge hp hi ((mem_walk hp _ b (Nat.le_refl _) b1 i).1 hm).2
      omega
    · have key : ∀ a b, a ∈ kidsP l i → b ∈ kidsP l i → a < b → ∀ z, z ∈ walkP l a → z ∈ walkP l b → False := by
        intro a b ha hb hlt z hza hzb
        obtain ⟨a1, a2⟩ := hk a ha
        obtain ⟨b1, b2⟩ := hk b hb
        obtain ⟨z1, z2⟩ := (mem_walk hp _ a (Nat.le_refl _) a1 z).1 hza
        obtain ⟨_, z3⟩ := (mem_walk hp _ b (Nat.le_refl _) b1 z).1 hzb
        have h3 := under_two hp (Nat.le_of_lt hlt) z z (Nat.le_refl _) z1 z2 z3
        rw [under_gt hp b1 hlt, (mem_kidsP.1 hb).2.2, Int.toNat_natCast, under_le (by omega)] at h3
        have := of_decide_eq_true h3
        omega
      rcases Nat.lt_or_gt_of_ne hab with h | h
      · exact key a b ha hb h z hza hzb
      · exact key b a hb ha h z hzb hza
/-- What is within a node stands together. -/
theorem walk_infix {l : List Rw} (hp : okPar l) {top : Nat} (ht : top < l.length) : ∀ (n i : Nat), i ≤ n → i < l.length → under l i top = true → ∃ A B, walkP l top = A ++ walkP l i ++ B := by
  intro n
  induction n with
  | zero =>
    intro i h hi hu
    have : i = 0 := by omega
    subst this
    rw [under_le (Nat.zero_le _)] at hu
    rw [← of_decide_eq_true hu]
    exact ⟨[], [], by simp⟩
  | succ n ih =>
    intro i h hi hu
    rcases Nat.lt_or_ge top i with h4 | h4
    · have h1 := hp i (by omega) hi
      rw [under_gt hp hi h4] at hu
      obtain ⟨A, B, e⟩ := ih _ (by omega) (by omega) hu
      have hm : i ∈ kidsP l (rwAt l i).parent.toNat := mem_kidsP.2 ⟨hi, by omega, by omega⟩
      obtain ⟨X, Y, e2⟩ := List.append_of_mem hm
      rw [walkP_eq hp (show (rwAt l i).parent.toNat < l.length by omega), e2, List.flatMap_append, List.flatMap_cons] at e
      exact ⟨A ++ ((rwAt l i).parent.toNat :: X.flatMap (walkP l)), Y.flatMap (walkP l) ++ B, by rw [e]; simp⟩
    · rw [under_le h4] at hu
      rw [← of_decide_eq_true hu]
      exact ⟨[], [], by simp⟩
theorem under_zero {l : List Rw} (hp : okPar l) : ∀ (n k : Nat), k ≤ n → k < l.length → under l k 0 = true := by
  intro n
  induction n with
  | zero => intro k h _; have : k = 0 := by omega
            subst this; exact under_self l _
  | succ n ih =>
    intro k h hk
    rcases Nat.eq_zero_or_pos k with h0 | h0
    · subst h0; exact under_self l _
    · have := hp k h0 hk
      rw [under_gt hp hk h0]; exact ih _ (by omega) (by omega)
theorem mem_walk0 {l : List Rw} (hp : okPar l) (h0 : 0 < l.length) (k : Nat) : k ∈ walkP l 0 ↔ k < l.length := by
  rw [mem_walk hp _ 0 (Nat.le_refl _) h0]
  exact ⟨fun h => h.1, fun h => ⟨h, under_zero hp k k (Nat.le_refl _) h⟩⟩
end Go.Proofs.Ytklodolkgdmhoaa

/- strings.Builder; small letters. -/
namespace Go.Proofs.Ytklodolkgdmhoaa
open Go Go.RowKit

theorem underB : Try.prog.underlying 85 = some (.pointer 87) := by kernel_rfl
theorem underU : Try.prog.underlying 97 = some .unsafePointer := by kernel_rfl
theorem underP : Try.prog.underlying 96 = some (.pointer 5) := by kernel_rfl
theorem cells5 : Try.prog.cellsOf 5 = 1 := by kernel_rfl
theorem liesB : liesAt Try.prog Try.prog.depth 87 (2 / Try.prog.cellsOf 87) 0 87 1 = true := by kernel_rfl
def bM (v : Nat) (l : List UInt8) : List AB := [.box 87 [selfP, .row 1 v], .row v 5 1 (l.map bD)]
theorem check_nil (v : Nat) (l : List UInt8) : MCalls Try.prog 61 [.box 87 [.val (.pointer none), .row 1 v], .row v 5 1 (l.map bD)] [.ptr 0 0] [.box 87 [.ptr 0 0, .row 1 v], .row v 5 1 (l.map bD)] (.tup []) := by
  refine m_start Try.func61 Try.ntmps61 rfl rfl rfl fun S w β => ?_
  repeat (first
    | refine awp_seq ?_
    | refine a_region ?_
    | (refine r_id ?_; first
      | refine r_ev tab_ok rfl rfl rfl rfl (by first | exact trivial | exact ⟨by omega, by omega⟩ | omega | exact ⟨by omega, by omega, by omega, by omega⟩ | exact Nat.le_of_ble_eq_true rfl) rfl ?_
      | refine r_ld tab_ok rfl rfl rfl rfl rfl ?_
      | refine r_nilck rfl rfl rfl rfl rfl rfl rfl ?_))
  refine r_by (fun _ => astep_eqnil_nil underB rfl rfl rfl) rfl rfl rfl rfl rfl ?_
  repeat (first
    | refine thenA_normal ?_
    | refine a_region ?_
    | refine r_done ?_
    | (refine r_id ?_; first
      | refine r_ev tab_ok rfl rfl rfl rfl (by first | exact trivial | exact ⟨by omega, by omega⟩ | omega | exact ⟨by omega, by omega, by omega, by omega⟩ | exact Nat.le_of_ble_eq_true rfl) rfl ?_)
    | refine awp_cond_t rfl ?_)
  refine r_by1 (astep_tounsafe tab_ok underB underU rfl rfl rfl rfl rfl) rfl rfl rfl rfl rfl ?_
  refine r_by (fun _ => astep_noescape Try.func62 rfl rfl rfl rfl rfl) rfl rfl rfl rfl rfl ?_
  refine r_by1 (astep_fromunsafe tab_ok underU underB rfl rfl rfl rfl liesB) rfl rfl rfl rfl rfl ?_
  repeat (first
    | refine r_done ?_
    | (refine r_id ?_; first
      | refine r_ev tab_ok rfl rfl rfl rfl (by first | exact trivial | exact ⟨by omega, by omega⟩ | omega | exact ⟨by omega, by omega, by omega, by omega⟩ | exact Nat.le_of_ble_eq_true rfl) rfl ?_
      | refine r_st tab_ok rfl rfl rfl rfl ?_
      | refine r_nilck rfl rfl rfl rfl rfl rfl rfl ?_)
    | exact retM0 (by first | exact .inl rfl | exact .inr rfl) rfl rfl rfl)
theorem check_ptr (v : Nat) (l : List UInt8) : MCalls Try.prog 61 [.box 87 [.ptr 0 0, .row 1 v], .row v 5 1 (l.map bD)] [.ptr 0 0] [.box 87 [.ptr 0 0, .row 1 v], .row v 5 1 (l.map bD)] (.tup []) := by
  refine m_start Try.func61 Try.ntmps61 rfl rfl rfl fun S w β => ?_
  repeat (first
    | refine awp_seq ?_
    | refine a_region ?_
    | (refine r_id ?_; first
      | refine r_ev tab_ok rfl rfl rfl rfl (by first | exact trivial | exact ⟨by omega, by omega⟩ | omega | exact ⟨by omega, by omega, by omega, by omega⟩ | exact Nat.le_of_ble_eq_true rfl) rfl ?_
      | refine r_ld tab_ok rfl rfl rfl rfl rfl ?_
      | refine r_nilck rfl rfl rfl rfl rfl rfl rfl ?_))
  refine r_by (fun _ => astep_eqnil_ptr underB rfl rfl rfl) rfl rfl rfl rfl rfl ?_
  repeat (first
    | refine awp_seq ?_
    | refine thenA_normal ?_
    | refine a_region ?_
    | refine r_done ?_
    | (refine r_id ?_; first
      | refine r_ev tab_ok rfl rfl rfl rfl (by first | exact trivial | exact ⟨by omega, by omega⟩ | omega | exact ⟨by omega, by omega, by omega, by omega⟩ | exact Nat.le_of_ble_eq_true rfl) rfl ?_
      | refine r_ld tab_ok rfl rfl rfl rfl rfl ?_
      | refine r_nilck rfl rfl rfl rfl rfl rfl rfl ?_)
    | refine awp_cond_f rfl ?_)
  refine r_by (fun _ => astep_neqself tab_ok underB rfl rfl rfl rfl) rfl rfl rfl rfl rfl ?_
  repeat (first
    | refine thenA_normal ?_
    | refine awp_skip ?_
    | refine r_done ?_
    | exact retM0 (by first | exact .inl rfl | exact .inr rfl) rfl rfl rfl
    | refine awp_cond_f rfl ?_)
theorem check_ok (v : Nat) (l : List UInt8) : MCalls Try.prog 61 [.box 87 [selfP, .row 1 v], .row v 5 1 (l.map bD)] [.ptr 0 0] [.box 87 [selfP, .row 1 v], .row v 5 1 (l.map bD)] (.tup []) := mcall_self (check_nil v l) (check_ptr v l)

/-- (*strings.Builder).WriteByte. -/
theorem write_ok (l : List UInt8) (c : UInt8) (hl : l.length ≤ 70368744177664) : MCalls Try.prog 58 [.box 87 [selfP, .row 1 0], .row 0 5 1 (l.map bD)] [.ptr 0 0, .val (.int .u8 c.toNat)] [.box 87 [selfP, .row 1 2], .row 2 5 1 ((l ++ [c]).map bD)] (.val .nilIface) := by
  rw [List.map_append]
  refine m_start Try.func58 Try.ntmps58 rfl rfl rfl fun S w β => ?_
  have hlm : (l.map bD).length = l.length := List.length_map _
  repeat (first
    | refine awp_seq ?_
    | refine a_region ?_
    | refine r_done ?_
    | (refine r_id ?_; first
      | refine r_ev tab_ok rfl rfl rfl rfl (by first | exact trivial | exact ⟨by omega, by omega⟩ | omega | exact ⟨by omega, by omega, by omega, by omega⟩ | exact Nat.le_of_ble_eq_true rfl) rfl ?_))
  refine r_mcall [0, 1] (check_ok 0 l) call61 rfl rfl ⟨rfl, rfl, trivial⟩ (by decide) ⟨Sub.refl _, trivial⟩ rfl rfl rfl rfl rfl rfl rfl ?_
  repeat (first
    | refine awp_seq ?_
    | refine thenA_normal ?_
    | refine a_region ?_
    | refine awp_ret ?_
    | refine r_done ?_
    | (refine r_id ?_; first
      | refine r_ev tab_ok rfl rfl rfl rfl (by first | exact trivial | exact ⟨by omega, by omega⟩ | omega | exact ⟨by omega, by omega, by omega, by omega⟩ | exact Nat.le_of_ble_eq_true rfl) rfl ?_
      | refine r_ld tab_ok rfl rfl rfl rfl rfl ?_
      | refine r_st tab_ok rfl rfl rfl rfl ?_
      | refine r_built tab_ok rfl rfl rfl rfl rfl rfl rfl rfl rfl ?_
      | refine r_nilck rfl rfl rfl rfl rfl rfl rfl ?_
      | refine r_append tab_ok rfl rfl rfl rfl rfl rfl rfl rfl rfl (by first | omega | (simp; omega)) rfl ?_)
    | refine retM1 (by first | exact .inl rfl | exact .inr rfl) rfl rfl rfl rfl rfl ?_)
  exact Sub.refl _

/-- (*strings.Builder).String. -/
theorem string_ok (v : Nat) (l : List UInt8) (hl : l.length ≤ 70368744177664) : MCalls Try.prog 59 [.box 87 [selfP, .row 1 v], .row v 5 1 (l.map bD)] [.ptr 0 0] [.box 87 [selfP, .any], .gone] (.val (.string ⟨l.toArray⟩)) := by
  rcases List.eq_nil_or_concat l with rfl | ⟨l', c, rfl⟩
  · refine m_startF Try.func59 Try.ntmps59 rfl rfl rfl fun S w β => ?_
    repeat (first
      | refine awp_seq ?_
      | refine a_region ?_
      | refine a_draw1 mixed_ok (by kernel_rfl) ?_
      | refine r_done ?_
      | (refine r_id ?_; first
        | refine r_ev tab_ok rfl rfl rfl rfl (by first | exact trivial | exact ⟨by omega, by omega⟩ | omega | exact ⟨by omega, by omega, by omega, by omega⟩ | exact Nat.le_of_ble_eq_true rfl) rfl ?_
        | refine r_ld tab_ok rfl rfl rfl rfl rfl ?_
        | refine r_nilck rfl rfl rfl rfl rfl rfl rfl ?_))
    refine r_usd0 underP rfl rfl rfl rfl rfl rfl rfl ?_
    repeat (first
      | (refine r_id ?_; first
        | refine r_ev tab_ok rfl rfl rfl rfl (by first | exact trivial | exact ⟨by omega, by omega⟩ | omega | exact ⟨by omega, by omega, by omega, by omega⟩ | exact Nat.le_of_ble_eq_true rfl) rfl ?_
        | refine r_ld tab_ok rfl rfl rfl rfl rfl ?_
        | refine r_nilck rfl rfl rfl rfl rfl rfl rfl ?_))
    refine r_by1 (astep_len_row tab_ok rfl rfl rfl rfl) rfl rfl rfl rfl rfl ?_
    refine r_ustr0 rfl rfl rfl rfl rfl rfl rfl rfl ?_
    repeat (first
      | refine thenA_normal ?_
      | refine awp_ret ?_
      | refine r_done' ?_
      | (refine r_id ?_; first
        | refine r_ev tab_ok rfl rfl rfl rfl (by first | exact trivial | exact ⟨by omega, by omega⟩ | omega | exact ⟨by omega, by omega, by omega, by omega⟩ | exact Nat.le_of_ble_eq_true rfl) rfl ?_))
    exact retF1 [.box 87 [selfP, .any], .gone] [(2, .val (.string ⟨#[]⟩))] (fits_convM (by repeat' first | exact trivial | exact rfl | (rw [List.map_append]; first | done | rfl) | exact c_sub rfl (Sub.refl _) rfl | exact c_nil rfl rfl | exact c_thaw rfl rfl rfl | exact c_row rfl rfl rfl | exact c_row rfl rfl (by rw [List.map_append]; first | done | rfl) | exact c_ptr rfl rfl rfl rfl | exact Or.inl ⟨c_sub rfl (Sub.refl _) rfl, c_ptr rfl rfl rfl rfl⟩ | exact c_alt rfl rfl rfl rfl | exact c_ro rfl rfl | exact c_eo rfl rfl | exact c_sub rfl (Sub.altl _ _) rfl | exact c_sub rfl (Sub.nil _) rfl | refine ⟨_, _, rfl, ?_, ?_⟩ | apply And.intro) (by repeat' first | exact trivial | exact rfl | (rw [List.map_append]; first | done | rfl) | exact c_sub rfl (Sub.refl _) rfl | exact c_nil rfl rfl | exact c_thaw rfl rfl rfl | exact c_row rfl rfl rfl | exact c_row rfl rfl (by rw [List.map_append]; first | done | rfl) | exact c_ptr rfl rfl rfl rfl | exact Or.inl ⟨c_sub rfl (Sub.refl _) rfl, c_ptr rfl rfl rfl rfl⟩ | exact c_alt rfl rfl rfl rfl | exact c_ro rfl rfl | exact c_eo rfl rfl | exact c_sub rfl (Sub.altl _ _) rfl | exact c_sub rfl (Sub.nil _) rfl | refine ⟨_, _, rfl, ?_, ?_⟩ | apply And.intro) ⟨trivial, trivial, trivial⟩) (by first | exact .inl rfl | exact .inr rfl) rfl rfl rfl rfl rfl (Sub.refl _)
  · refine m_startF Try.func59 Try.ntmps59 rfl rfl rfl fun S w β => ?_
    repeat (first
      | refine awp_seq ?_
      | refine a_region ?_
      | refine r_done ?_
      | (refine r_id ?_; first
        | refine r_ev tab_ok rfl rfl rfl rfl (by first | exact trivial | exact ⟨by omega, by omega⟩ | omega | exact ⟨by omega, by omega, by omega, by omega⟩ | exact Nat.le_of_ble_eq_true rfl) rfl ?_))
    refine a_draw mixed_ok [0,0,0,1,1,0,0,0,1,1,2,0] (by kernel_rfl) ?_
    repeat (first
      | (refine r_id ?_; first
        | refine r_ev tab_ok rfl rfl rfl rfl (by first | exact trivial | exact ⟨by omega, by omega⟩ | omega | exact ⟨by omega, by omega, by omega, by omega⟩ | exact Nat.le_of_ble_eq_true rfl) rfl ?_
        | refine r_ld tab_ok rfl rfl rfl rfl rfl ?_
        | refine r_nilck rfl rfl rfl rfl rfl rfl rfl ?_))
    refine r_usd (by simp) rfl rfl rfl rfl rfl rfl rfl ?_
    repeat (first
      | (refine r_id ?_; first
        | refine r_ev tab_ok rfl rfl rfl rfl (by first | exact trivial | exact ⟨by omega, by omega⟩ | omega | exact ⟨by omega, by omega, by omega, by omega⟩ | exact Nat.le_of_ble_eq_true rfl) rfl ?_
        | refine r_ld tab_ok rfl rfl rfl rfl rfl ?_
        | refine r_nilck rfl rfl rfl rfl rfl rfl rfl ?_))
    refine r_by1 (astep_len_row tab_ok rfl rfl rfl rfl) rfl rfl rfl rfl rfl ?_
    refine r_ustr (by simp) underP cells5 rfl rfl rfl rfl rfl rfl rfl rfl ?_
    repeat (first
      | refine thenA_normal ?_
      | refine awp_ret ?_
      | refine r_done' ?_
      | (refine r_id ?_; first
        | refine r_ev tab_ok rfl rfl rfl rfl (by first | exact trivial | exact ⟨by omega, by omega⟩ | omega | exact ⟨by omega, by omega, by omega, by omega⟩ | exact Nat.le_of_ble_eq_true rfl) rfl ?_))
    exact retF1 [.box 87 [selfP, .any], .gone] [(2, .val (.string ⟨(l'.concat c).toArray⟩))] (fits_convM (by repeat' first | exact trivial | exact rfl | (rw [List.map_append]; first | done | rfl) | exact c_sub rfl (Sub.refl _) rfl | exact c_nil rfl rfl | exact c_thaw rfl rfl rfl | exact c_row rfl rfl rfl | exact c_row rfl rfl (by rw [List.map_append]; first | done | rfl) | exact c_ptr rfl rfl rfl rfl | exact Or.inl ⟨c_sub rfl (Sub.refl _) rfl, c_ptr rfl rfl rfl rfl⟩ | exact c_alt rfl rfl rfl rfl | exact c_ro rfl rfl | exact c_eo rfl rfl | exact c_sub rfl (Sub.altl _ _) rfl | exact c_sub rfl (Sub.nil _) rfl | refine ⟨_, _, rfl, ?_, ?_⟩ | apply And.intro) (by repeat' first | exact trivial | exact rfl | (rw [List.map_append]; first | done | rfl) | exact c_sub rfl (Sub.refl _) rfl | exact c_nil rfl rfl | exact c_thaw rfl rfl rfl | exact c_row rfl rfl rfl | exact c_row rfl rfl (by rw [List.map_append]; first | done | rfl) | exact c_ptr rfl rfl rfl rfl | exact Or.inl ⟨c_sub rfl (Sub.refl _) rfl, c_ptr rfl rfl rfl rfl⟩ | exact c_alt rfl rfl rfl rfl | exact c_ro rfl rfl | exact c_eo rfl rfl | exact c_sub rfl (Sub.altl _ _) rfl | exact c_sub rfl (Sub.nil _) rfl | refine ⟨_, _, rfl, ?_, ?_⟩ | apply And.intro) ⟨trivial, trivial, trivial⟩) (by first | exact .inl rfl | exact .inr rfl) rfl rfl rfl rfl rfl (Sub.refl _)
theorem lower_ok (s : ByteArray) (hs : s.size ≤ 70368744177663) : PCalls Try.prog 49 [.val (.string s)] (.val (.string (lowS s))) := by
  refine p_start Try.func49 Try.ntmps49 rfl rfl rfl fun S w => ?_
  have hsz := str_size s
  repeat (first
    | refine awp_seq ?_
    | refine thenA_normal ?_
    | refine awp_block ?_
    | refine a_region ?_
    | refine r_done ?_
    | (refine r_id ?_; first
      | refine r_ev tab_ok rfl rfl rfl rfl (by first | exact trivial | exact ⟨by omega, by omega⟩ | omega | exact ⟨by omega, by omega, by omega, by omega⟩ | exact Nat.le_of_ble_eq_true rfl) rfl ?_
      | refine r_wr tab_ok rfl rfl rfl rfl rfl ?_))
  refine a_loop (σ := {i : Nat // i ≤ s.size}) (fun x => [.box 87 [.alt (.val (.pointer none)) (.ptr 0 0), .row 1 0], .row 0 5 1 ((lowL (s.data.toList.take x.1)).map bD)]) (fun x => [(0, .val (.string s)), (3, .ptr 0 0), (7, .val (.int .i64 s.size)), (8, .val (.int .i64 x.1))]) (fun x => s.size - x.1) ⟨0, by omega⟩ (fits_conv (by repeat' first | exact trivial | exact rfl | (rw [List.map_append]; first | done | rfl) | exact c_sub rfl (Sub.refl _) rfl | exact c_nil rfl rfl | exact c_thaw rfl rfl rfl | exact c_row rfl rfl rfl | exact c_row rfl rfl (by rw [List.map_append]; first | done | rfl) | exact c_ptr rfl rfl rfl rfl | exact Or.inl ⟨c_sub rfl (Sub.refl _) rfl, c_ptr rfl rfl rfl rfl⟩ | exact c_alt rfl rfl rfl rfl | exact c_ro rfl rfl | exact c_eo rfl rfl | exact c_sub rfl (Sub.altl _ _) rfl | exact c_sub rfl (Sub.nil _) rfl | refine ⟨_, _, rfl, ?_, ?_⟩ | apply And.intro) (by repeat' first | exact trivial | exact rfl | (rw [List.map_append]; first | done | rfl) | exact c_sub rfl (Sub.refl _) rfl | exact c_nil rfl rfl | exact c_thaw rfl rfl rfl | exact c_row rfl rfl rfl | exact c_row rfl rfl (by rw [List.map_append]; first | done | rfl) | exact c_ptr rfl rfl rfl rfl | exact Or.inl ⟨c_sub rfl (Sub.refl _) rfl, c_ptr rfl rfl rfl rfl⟩ | exact c_alt rfl rfl rfl rfl | exact c_ro rfl rfl | exact c_eo rfl rfl | exact c_sub rfl (Sub.altl _ _) rfl | exact c_sub rfl (Sub.nil _) rfl | refine ⟨_, _, rfl, ?_, ?_⟩ | apply And.intro)) ?_
  rintro ⟨i, hi⟩
  dsimp only
  have hll : (lowL (s.data.toList.take i)).length ≤ s.size := by simp [lowL]; omega
  repeat (first
    | refine awp_seq ?_
    | refine a_region ?_
    | refine r_done ?_
    | (refine r_id ?_; first
      | refine r_ev tab_ok rfl rfl rfl rfl (by first | exact trivial | exact ⟨by omega, by omega⟩ | omega | exact ⟨by omega, by omega, by omega, by omega⟩ | exact Nat.le_of_ble_eq_true rfl) rfl ?_))
  refine awp_cond_p rfl (fun hlt => ?_) (fun hge => ?_)
  · have hi' : i < s.data.toList.length := by omega
    repeat (first
      | refine awp_seq ?_
      | refine thenA_normal ?_
      | refine awp_block ?_
      | refine a_region ?_
      | refine awp_skip ?_
      | refine r_done ?_
      | (refine r_id ?_; first
        | refine r_ev tab_ok rfl rfl rfl rfl (by first | exact trivial | exact ⟨by omega, by omega⟩ | omega | exact ⟨by omega, by omega, by omega, by omega⟩ | exact Nat.le_of_ble_eq_true rfl) rfl ?_
        | refine r_ev_cnd tab_ok rfl rfl rfl rfl rfl rfl (by first | exact fun _ => rfl | exact cs1 | exact cs2 | exact cs3) (by first | exact fun _ => trivial | (intro h; simp at h; first | exact ⟨by omega, by omega⟩ | omega)) rfl ?_
        | refine r_and rfl rfl rfl rfl rfl rfl rfl rfl ?_))
    have hb : (s.data.toList.getD ((i : Int)).toNat 0) = s.data.toList[i] := by rw [Int.toNat_natCast, getD_byte hi']
    rw [hb]
    have htk : lowL (s.data.toList.take (i + 1)) = lowL (s.data.toList.take i) ++ [lowB s.data.toList[i]] := by
      rw [lowL, List.take_add_one, List.getElem?_eq_getElem hi']; simp [lowL]
    generalize s.data.toList[i] = b at htk ⊢
    refine awp_cond rfl (fun h => ?_) (fun h => ?_)
    · have h' : 65 ≤ b.toNat ∧ b.toNat ≤ 90 := by simp at h; omega
      repeat (first
        | refine thenA_normal ?_
        | refine a_region ?_
        | refine r_done ?_
        | (refine r_id ?_; first
          | refine r_ev tab_ok rfl rfl rfl rfl (by first | exact trivial | exact ⟨by omega, by omega⟩ | omega | exact ⟨by omega, by omega, by omega, by omega⟩ | exact Nat.le_of_ble_eq_true rfl) rfl ?_))
      rw [← lowB_up h']
      refine r_mcall [0, 1] (write_ok _ (lowB b) (by omega)) call58 rfl rfl ⟨rfl, rfl, trivial⟩ (by decide) ⟨Sub.refl _, Sub.refl _, trivial⟩ rfl rfl rfl rfl rfl rfl rfl ?_
      repeat (first
        | refine thenA_normal ?_
        | refine a_region ?_
        | refine r_done ?_
        | (refine r_id ?_; first
          | refine r_ev tab_ok rfl rfl rfl rfl (by first | exact trivial | exact ⟨by omega, by omega⟩ | omega | exact ⟨by omega, by omega, by omega, by omega⟩ | exact Nat.le_of_ble_eq_true rfl) rfl ?_))
      refine ⟨⟨i + 1, by omega⟩, by dsimp only; omega, ?_⟩
      dsimp only
      rw [htk]
      exact fits_conv (by repeat' first | exact trivial | exact rfl | (rw [List.map_append]; first | done | rfl) | exact c_sub rfl (Sub.refl _) rfl | exact c_nil rfl rfl | exact c_thaw rfl rfl rfl | exact c_row rfl rfl rfl | exact c_row rfl rfl (by rw [List.map_append]; first | done | rfl) | exact c_ptr rfl rfl rfl rfl | exact Or.inl ⟨c_sub rfl (Sub.refl _) rfl, c_ptr rfl rfl rfl rfl⟩ | exact c_alt rfl rfl rfl rfl | exact c_ro rfl rfl | exact c_eo rfl rfl | exact c_sub rfl (Sub.altl _ _) rfl | exact c_sub rfl (Sub.nil _) rfl | refine ⟨_, _, rfl, ?_, ?_⟩ | apply And.intro) (by repeat' first | exact trivial | exact rfl | (rw [List.map_append]; first | done | rfl) | exact c_sub rfl (Sub.refl _) rfl | exact c_nil rfl rfl | exact c_thaw rfl rfl rfl | exact c_row rfl rfl rfl | exact c_row rfl rfl (by rw [List.map_append]; first | done | rfl) | exact c_ptr rfl rfl rfl rfl | exact Or.inl ⟨c_sub rfl (Sub.refl _) rfl, c_ptr rfl rfl rfl rfl⟩ | exact c_alt rfl rfl rfl rfl | exact c_ro rfl rfl | exact c_eo rfl rfl | exact c_sub rfl (Sub.altl _ _) rfl | exact c_sub rfl (Sub.nil _) rfl | refine ⟨_, _, rfl, ?_, ?_⟩ | apply And.intro)
    · have h' : ¬ (65 ≤ b.toNat ∧ b.toNat ≤ 90) := by simp at h; omega
      repeat (first
        | refine thenA_normal ?_
        | refine a_region ?_
        | refine awp_skip ?_
        | (refine r_id ?_; first
          | refine r_ev tab_ok rfl rfl rfl rfl (by first | exact trivial | exact ⟨by omega, by omega⟩ | omega | exact ⟨by omega, by omega, by omega, by omega⟩ | exact Nat.le_of_ble_eq_true rfl) rfl ?_))
      refine r_mcall [0, 1] (write_ok _ b (by omega)) call58 rfl rfl ⟨rfl, rfl, trivial⟩ (by decide) ⟨Sub.refl _, Sub.refl _, trivial⟩ rfl rfl rfl rfl rfl rfl rfl ?_
      repeat (first
        | refine thenA_normal ?_
        | refine a_region ?_
        | refine r_done ?_
        | (refine r_id ?_; first
          | refine r_ev tab_ok rfl rfl rfl rfl (by first | exact trivial | exact ⟨by omega, by omega⟩ | omega | exact ⟨by omega, by omega, by omega, by omega⟩ | exact Nat.le_of_ble_eq_true rfl) rfl ?_))
      rw [lowB_no h'] at htk
      refine ⟨⟨i + 1, by omega⟩, by dsimp only; omega, ?_⟩
      dsimp only
      rw [htk]
      exact fits_conv (by repeat' first | exact trivial | exact rfl | (rw [List.map_append]; first | done | rfl) | exact c_sub rfl (Sub.refl _) rfl | exact c_nil rfl rfl | exact c_thaw rfl rfl rfl | exact c_row rfl rfl rfl | exact c_row rfl rfl (by rw [List.map_append]; first | done | rfl) | exact c_ptr rfl rfl rfl rfl | exact Or.inl ⟨c_sub rfl (Sub.refl _) rfl, c_ptr rfl rfl rfl rfl⟩ | exact c_alt rfl rfl rfl rfl | exact c_ro rfl rfl | exact c_eo rfl rfl | exact c_sub rfl (Sub.altl _ _) rfl | exact c_sub rfl (Sub.nil _) rfl | refine ⟨_, _, rfl, ?_, ?_⟩ | apply And.intro) (by repeat' first | exact trivial | exact rfl | (rw [List.map_append]; first | done | rfl) | exact c_sub rfl (Sub.refl _) rfl | exact c_nil rfl rfl | exact c_thaw rfl rfl rfl | exact c_row rfl rfl rfl | exact c_row rfl rfl (by rw [List.map_append]; first | done | rfl) | exact c_ptr rfl rfl rfl rfl | exact Or.inl ⟨c_sub rfl (Sub.refl _) rfl, c_ptr rfl rfl rfl rfl⟩ | exact c_alt rfl rfl rfl rfl | exact c_ro rfl rfl | exact c_eo rfl rfl | exact c_sub rfl (Sub.altl _ _) rfl | exact c_sub rfl (Sub.nil _) rfl | refine ⟨_, _, rfl, ?_, ?_⟩ | apply And.intro)
  · have : i = s.size := by omega
    subst this
    repeat (first
      | refine awp_seq ?_
      | refine a_region ?_
      | refine awp_exit ?_)
    refine r_mcall [0, 1] (string_ok 0 _ (by omega)) call59 rfl rfl ⟨rfl, rfl, trivial⟩ (by decide) ⟨Sub.refl _, trivial⟩ rfl rfl rfl rfl rfl rfl rfl ?_
    repeat (first
      | refine thenA_normal ?_
      | refine awp_ret ?_
      | refine r_done ?_
      | (refine r_id ?_; first
        | refine r_ev tab_ok rfl rfl rfl rfl (by first | exact trivial | exact ⟨by omega, by omega⟩ | omega | exact ⟨by omega, by omega, by omega, by omega⟩ | exact Nat.le_of_ble_eq_true rfl) rfl ?_)
      | refine ret1 (by first | exact .inl rfl | exact .inr rfl) rfl rfl rfl ?_)
    exact Sub.of_eq (by rw [List.take_of_length_le (by omega)]; rfl)
end Go.Proofs.Ytklodolkgdmhoaa
