import Derived.Test.YtllmagfmbglefaaDoorP5
/- Styles; what prop says, plain. -/
namespace Go.Proofs.YtllmagfmbglefaaDoor
open Go Go.RowKit
set_option maxRecDepth 20000

def qtS : ByteArray := ⟨#[111, 112, 101, 110, 45, 113, 117, 111, 116, 101, 32, 99, 108, 111, 115, 101, 45, 113, 117, 111, 116, 101, 32, 110, 111, 45, 111, 112, 101, 110, 45, 113, 117, 111, 116, 101, 32, 110, 111, 45, 99, 108, 111, 115, 101, 45, 113, 117, 111, 116, 101]⟩
def atS : ByteArray := ⟨#[97, 116, 116, 114]⟩
def ctrS : ByteArray := ⟨#[99, 111, 117, 110, 116, 101, 114]⟩
def ctsS : ByteArray := ⟨#[99, 111, 117, 110, 116, 101, 114, 115]⟩
def itZ : It := ⟨0, ⟨#[]⟩, ⟨#[]⟩, ⟨#[]⟩⟩
def itemF2 (n : Nd) (l : List Nd) : It × Bool :=
  if isFn n ctrS then ctP3 (splitF l) else
  if isFn n ctsS then ctP4 (splitF l) else (itZ, false)
def itemF1 (n : Nd) : List Nd → It × Bool
  | [m] => if isFn n atS then (⟨2, (idnF m).1, ⟨#[]⟩, ⟨#[]⟩⟩, (idnF m).2) else itemF2 n [m]
  | l => itemF2 n l
def itemF (n : Nd) : It × Bool :=
  if n.tok.kind = 5 then (⟨1, n.tok.text, ⟨#[]⟩, ⟨#[]⟩⟩, true) else
  if (idnF n).2 && inW qtS (idnF n).1 then (⟨4 + (idxF (fldF qtS) (idnF n).1 + 1), ⟨#[]⟩, ⟨#[]⟩, ⟨#[]⟩⟩, true) else
  itemF1 n (tigF n.kids)
theorem tigF_sz : ∀ l : List Nd, nszs (tigF l) ≤ nszs l
  | [] => Nat.le_refl _
  | n :: r => by
    have := tigF_sz r
    simp only [tigF, List.filter_cons] at this ⊢
    split
    · simp only [nszs]; omega
    · simp only [nszs]; omega
structure Sty where
  disp : ByteArray
  lty : ByteArray
  col : ByteArray
  cont : List It
  normal : Bool
  nothing : Bool
  quotes : List ByteArray
  auto : Bool
  reset : List Pr
  add : List Pr
  set : List Pr
def zS : Sty := ⟨⟨#[]⟩, ⟨#[]⟩, ⟨#[]⟩, [], false, false, [], false, [], [], []⟩
def stC (s : Sty) : List AV := [.val (.string s.disp), .val (.string s.lty), .val (.string s.col), .sl 4 (s.cont.map itD), .val (.bool s.normal), .val (.bool s.nothing), .sl 1 (s.quotes.map sF), .val (.bool s.auto), .sl 4 (s.reset.map prD), .sl 4 (s.add.map prD), .sl 4 (s.set.map prD)]
def stA (s : Sty) : AV := .agg (stC s)
def stD (s : Sty) : D := .ag [.val (.string s.disp), .val (.string s.lty), .val (.string s.col), .sl 4 (s.cont.map itD), .val (.bool s.normal), .val (.bool s.nothing), .sl 1 (s.quotes.map sF), .val (.bool s.auto), .sl 4 (s.reset.map prD), .sl 4 (s.add.map prD), .sl 4 (s.set.map prD)]
/-- A value's box: with a name, nothing said yet; and with a style. -/
def vZ (nm : ByteArray) : AB := .box 30 [.val (.string nm), .val (.int .i64 0), .val (.string ⟨#[]⟩), .val (.string ⟨#[]⟩), .val (.string ⟨#[]⟩), .val (.slice none 0 0), .val (.bool false), .val (.bool false), .val (.slice none 0 0), .val (.bool false), .val (.slice none 0 0), .val (.slice none 0 0), .val (.slice none 0 0)]
def vS (nm : ByteArray) (s : Sty) : AB := .box 30 [.val (.string nm), .val (.int .i64 0), .val (.string s.disp), .val (.string s.lty), .val (.string s.col), .sl 4 (s.cont.map itD), .val (.bool s.normal), .val (.bool s.nothing), .sl 1 (s.quotes.map sF), .val (.bool s.auto), .sl 4 (s.reset.map prD), .sl 4 (s.add.map prD), .sl 4 (s.set.map prD)]
def vX : AB := .box 30 [.any, .any, .any, .any, .any, .any, .any, .any, .any, .any, .any, .any, .any]
def vR (nm : ByteArray) : Option Sty → AB
  | none => vX
  | some s => vS nm s
def norS : ByteArray := ⟨#[110, 111, 114, 109, 97, 108]⟩
def autS : ByteArray := ⟨#[97, 117, 116, 111]⟩
def conF1 : List Nd → List It → Option (List It)
  | [], acc => some acc
  | n :: r, acc => if (itemF n).2 then conF1 r (acc ++ [(itemF n).1]) else none
def conF (l : List Nd) : Option Sty :=
  if aloF l = norS then some { zS with normal := true } else
  if aloF l = nonS then some { zS with nothing := true } else
  match conF1 l [] with
  | none => none
  | some a => if l.length ≤ 32 then some { zS with cont := a } else none
def marF1 : List Nd → List ByteArray → Option (List ByteArray)
  | [], acc => some acc
  | n :: r, acc => if n.tok.kind = 5 then marF1 r (acc ++ [n.tok.text]) else none
def marF (l : List Nd) : Option Sty :=
  if aloF l = nonS then some zS else
  if aloF l = autS then some { zS with auto := true } else
  match marF1 l [] with
  | none => none
  | some a => if l.length % 2 = 0 ∧ l.length ≤ 32 then some { zS with quotes := a } else none
def colS : ByteArray := ⟨#[99, 111, 108, 111, 114]⟩
def conS : ByteArray := ⟨#[99, 111, 110, 116, 101, 110, 116]⟩
def incS : ByteArray := ⟨#[99, 111, 117, 110, 116, 101, 114, 45, 105, 110, 99, 114, 101, 109, 101, 110, 116]⟩
def rstS : ByteArray := ⟨#[99, 111, 117, 110, 116, 101, 114, 45, 114, 101, 115, 101, 116]⟩
def setS : ByteArray := ⟨#[99, 111, 117, 110, 116, 101, 114, 45, 115, 101, 116]⟩
def dspS : ByteArray := ⟨#[100, 105, 115, 112, 108, 97, 121]⟩
def lstS : ByteArray := ⟨#[108, 105, 115, 116, 45, 115, 116, 121, 108, 101, 45, 116, 121, 112, 101]⟩
def quoS : ByteArray := ⟨#[113, 117, 111, 116, 101, 115]⟩
def namN : ByteArray := ⟨([99, 111, 108, 111, 114, 32, 99, 111, 110, 116, 101, 110, 116, 32, 99, 111, 117, 110, 116, 101, 114, 45, 105, 110, 99, 114, 101, 109, 101, 110, 116, 32, 99, 111, 117, 110, 116, 101, 114, 45, 114, 101, 115, 101].append [116, 32, 99, 111, 117, 110, 116, 101, 114, 45, 115, 101, 116, 32, 100, 105, 115, 112, 108, 97, 121, 32, 108, 105, 115, 116, 45, 115, 116, 121, 108, 101, 45, 116, 121, 112, 101, 32, 113, 117, 111, 116, 101, 115]).toArray⟩
def widN : ByteArray := ⟨#[105, 110, 104, 101, 114, 105, 116, 32, 105, 110, 105, 116, 105, 97, 108, 32, 117, 110, 115, 101, 116]⟩
def disN : ByteArray := ⟨#[110, 111, 110, 101, 32, 98, 108, 111, 99, 107, 32, 105, 110, 108, 105, 110, 101, 32, 108, 105, 115, 116, 45, 105, 116, 101, 109]⟩
def colF : List Nd → Option Sty
  | [n] => if (idnF n).2 then some { zS with col := (idnF n).1 } else none
  | _ => none
def sayF (nm : ByteArray) (l : List Nd) : Option Sty :=
  if nm = colS then colF l else
  if nm = conS then conF l else
  if nm = incS then (if (pairsF l 1 false).2 then some { zS with add := (pairsF l 1 false).1 } else none) else
  if nm = rstS then (if (pairsF l 0 true).2 then some { zS with reset := (pairsF l 0 true).1 } else none) else
  if nm = setS then (if (pairsF l 0 false).2 then some { zS with set := (pairsF l 0 false).1 } else none) else
  if nm = dspS then (if inW disN (aloF l) then some { zS with disp := aloF l } else none) else
  if nm = lstS then (if (ltyF1 l).2 then some { zS with lty := (ltyF1 l).1 } else none) else
  if nm = quoS then marF l else none
def namL : List ByteArray := [colS, conS, incS, rstS, setS, dspS, lstS, quoS]
structure Val where
  name : ByteArray
  wide : Int
  sty : Sty
def vC (v : Val) : List AV := .val (.string v.name) :: .val (.int .i64 v.wide) :: stC v.sty
def vA (v : Val) : AV := .agg (vC v)
def zV : Val := ⟨⟨#[]⟩, 0, zS⟩
def parF1 (nm : ByteArray) (l : List Nd) : Val × Int :=
  if ¬ inW namN nm ∨ l.length = 0 then (zV, 2) else
  if idxF (fldF widN) (aloF l) + 1 = 0 then
    (match sayF nm l with
    | none => (zV, 2)
    | some s => (⟨nm, 0, s⟩, 0))
  else (⟨nm, idxF (fldF widN) (aloF l) + 1, zS⟩, 0)
def parF (nm : ByteArray) (v : List Nd) : Val × Int := parF1 nm (tigF v)
end Go.Proofs.YtllmagfmbglefaaDoor

/- prop.counted for counters(); walked. -/
namespace Go.Proofs.YtllmagfmbglefaaDoor
open Go Go.RowKit
set_option maxRecDepth 20000

set_option maxHeartbeats 4000000 in
theorem counted4_ok (l : List Nd) (hs : nszs l < 1099511627776) (ht : ∀ n ∈ l, n.tok.text.size ≤ 1099511627776) : PCalls Tryd.prog 127 [itA ⟨4, ⟨#[]⟩, ⟨#[]⟩, ⟨#[]⟩⟩, .sl 7 (l.map nF)] (.tup [itA (ctP4 (splitF l)).1, .val (.bool (ctP4 (splitF l)).2)]) := by
  have hll := nszs_len l
  have hpz : ∀ p ∈ splitF l, nszs p < 1099511627776 := fun p h => Nat.lt_of_le_of_lt (splitF_in h).1 hs
  have hpt : ∀ p ∈ splitF l, ∀ n ∈ p, n.tok.text.size ≤ 1099511627776 := fun p h n hn => ht n ((splitF_in h).2 n hn)
  have hpl : (splitF l).length ≤ 1099511627776 := by
    rw [splitF, splitG_len]
    have := List.countP_le_length (p := cmB) (l := l)
    simp only [List.length_nil]
    omega
  refine p_start Tryd.func127 Tryd.ntmps127 rfl rfl rfl fun S w0 => ?_
  repeat (first | refine awp_seq ?_ | refine a_region ?_ | refine r_done ?_ | (refine r_id ?_; first | refine r_ev tab_ok rfl rfl rfl rfl (by first | exact trivial | exact ⟨by omega, by omega⟩ | omega | exact ⟨by omega, by omega, by omega, by omega⟩ | exact Nat.le_of_ble_eq_true rfl) rfl ?_ | refine r_wr tab_ok rfl rfl rfl rfl rfl ?_))
  refine r_call (split_ok 1099511627776 l hs (Nat.le_refl _)) call117 rfl rfl ⟨Sub.refl _, trivial⟩ rfl rfl rfl rfl ?_
  obtain ⟨ps, hps⟩ : ∃ ps, ps = splitF l := ⟨_, rfl⟩
  rw [← hps] at hpz hpt hpl ⊢
  have hlm : (ps.map nds).length = ps.length := List.length_map _
  clear hps
  match ps, hpz, hpt, hpl, hlm with
  | [], hpz, hpt, hpl, hlm =>
    have e : ctP4 ([]) = (⟨4, ⟨#[]⟩, ⟨#[]⟩, ⟨#[]⟩⟩, false) := rfl
    rw [e]
    repeat (first | refine awp_seq ?_ | refine thenA_normal ?_ | refine a_region ?_ | refine awp_ret ?_ | refine thenA_ret ?_ | refine r_done ?_ | (refine r_id ?_; first | refine r_len tab_ok rfl rfl rfl rfl rfl rfl rfl ?_ | refine r_ev tab_ok rfl rfl rfl rfl (by first | exact trivial | exact ⟨by omega, by omega⟩ | omega | exact ⟨by omega, by omega, by omega, by omega⟩ | exact Nat.le_of_ble_eq_true rfl) rfl ?_ | refine r_ld tab_ok rfl rfl rfl rfl rfl ?_ | refine r_st tab_ok rfl rfl rfl rfl ?_ | refine r_pick_t rfl rfl rfl rfl rfl rfl rfl ?_ | refine r_off rfl rfl rfl rfl rfl rfl ?_) | refine awp_cond_t rfl ?_)
    all_goals exact ret2ct tab_ok (by first | exact .inl rfl | exact .inr rfl) rfl rfl rfl rfl rfl rfl rfl (Sub.refl _) (Sub.refl _)
  | [p], hpz, hpt, hpl, hlm =>
    have hlen : ((([p] : List (List Nd)).length : Nat) : Int) = 1 := rfl
    have e : ctP4 ([p]) = (⟨4, ⟨#[]⟩, ⟨#[]⟩, ⟨#[]⟩⟩, false) := by cases p with | nil => rfl | cons c q => (cases q <;> rfl)
    rw [e]
    repeat (first | refine awp_seq ?_ | refine thenA_normal ?_ | refine a_region ?_ | refine awp_ret ?_ | refine thenA_ret ?_ | refine r_done ?_ | (refine r_id ?_; first | refine r_len tab_ok rfl rfl rfl rfl rfl rfl rfl ?_ | refine r_ev tab_ok rfl rfl rfl rfl (by first | exact trivial | exact ⟨by omega, by omega⟩ | omega | exact ⟨by omega, by omega, by omega, by omega⟩ | exact Nat.le_of_ble_eq_true rfl) rfl ?_ | refine r_ld tab_ok rfl rfl rfl rfl rfl ?_ | refine r_st tab_ok rfl rfl rfl rfl ?_ | refine r_pick_t rfl rfl rfl rfl rfl rfl rfl ?_ | refine r_off rfl rfl rfl rfl rfl rfl ?_) | refine awp_cond_t rfl ?_)
    all_goals exact ret2ct tab_ok (by first | exact .inl rfl | exact .inr rfl) rfl rfl rfl rfl rfl rfl rfl (Sub.refl _) (Sub.refl _)
  | [] :: b :: r, hpz, hpt, hpl, hlm =>
    have hlen : (((([] :: b :: r) : List (List Nd)).length : Nat) : Int) = (r.length : Nat) + 2 := by simp only [List.length_cons]; omega
    have hne2 : ¬ (((([] :: b :: r) : List (List Nd))[Int.toNat 0]'(Nat.succ_pos _)).length : Int) = 1 := by show ¬ (0 : Int) = 1; decide
    have e : ctP4 ([] :: b :: r) = (⟨4, ⟨#[]⟩, ⟨#[]⟩, ⟨#[]⟩⟩, false) := rfl
    rw [e]
    by_cases hr : r.length ≤ 1
    · repeat (first | refine awp_seq ?_ | refine thenA_normal ?_ | refine a_region ?_ | refine awp_ret ?_ | refine thenA_ret ?_ | refine r_done ?_ | (refine r_id ?_; first | refine r_len tab_ok rfl rfl rfl rfl rfl rfl rfl ?_ | refine r_ev tab_ok rfl rfl rfl rfl (by first | exact trivial | exact ⟨by omega, by omega⟩ | omega | exact ⟨by omega, by omega, by omega, by omega⟩ | exact Nat.le_of_ble_eq_true rfl) rfl ?_ | refine r_ld tab_ok rfl rfl rfl rfl rfl ?_ | refine r_idx tab_ok rfl rfl rfl rfl rfl rfl rfl (by first | exact ⟨by omega, by omega⟩ | (simp; omega)) rfl rfl ?_ | refine r_st tab_ok rfl rfl rfl rfl ?_ | refine r_pick_f rfl rfl rfl rfl rfl rfl rfl ?_ | refine r_len_on tab_ok rfl rfl rfl rfl rfl rfl rfl rfl rfl ?_ | refine r_ev_on tab_ok rfl rfl rfl rfl rfl rfl (by first | exact trivial | exact ⟨by omega, by omega⟩ | omega) rfl ?_) | refine awp_cond_t rfl ?_ | refine r_g rfl rfl (congrArg (fun b => AV.val (.bool b)) (decide_eq_false (by omega))) ?_ | refine r_pick_f rfl rfl (congrArg (fun b => AV.val (.bool b)) (decide_eq_false (by omega))) rfl rfl rfl rfl ?_)
      all_goals exact ret2ct tab_ok (by first | exact .inl rfl | exact .inr rfl) rfl rfl rfl rfl rfl rfl rfl (Sub.refl _) (Sub.refl _)
    · repeat (first | refine awp_seq ?_ | refine thenA_normal ?_ | refine a_region ?_ | refine awp_ret ?_ | refine thenA_ret ?_ | refine r_done ?_ | (refine r_id ?_; first | refine r_len tab_ok rfl rfl rfl rfl rfl rfl rfl ?_ | refine r_ev tab_ok rfl rfl rfl rfl (by first | exact trivial | exact ⟨by omega, by omega⟩ | omega | exact ⟨by omega, by omega, by omega, by omega⟩ | exact Nat.le_of_ble_eq_true rfl) rfl ?_ | refine r_ld tab_ok rfl rfl rfl rfl rfl ?_ | refine r_st tab_ok rfl rfl rfl rfl ?_ | refine r_pick_f rfl rfl rfl rfl rfl rfl rfl ?_ | refine r_len_on tab_ok rfl rfl rfl rfl rfl rfl rfl rfl rfl ?_ | refine r_ev_on tab_ok rfl rfl rfl rfl rfl rfl (by first | exact trivial | exact ⟨by omega, by omega⟩ | omega) rfl ?_) | refine awp_cond_t rfl ?_ | refine r_pick_t rfl rfl (congrArg (fun b => AV.val (.bool b)) (decide_eq_true (by omega))) rfl rfl rfl rfl ?_ | refine r_off rfl rfl (congrArg (fun b => AV.val (.bool b)) (decide_eq_true (by omega))) rfl rfl rfl ?_)
      all_goals exact ret2ct tab_ok (by first | exact .inl rfl | exact .inr rfl) rfl rfl rfl rfl rfl rfl rfl (Sub.refl _) (Sub.refl _)
  | (c :: d :: q) :: b :: r, hpz, hpt, hpl, hlm =>
    have hlen : (((((c :: d :: q) :: b :: r) : List (List Nd)).length : Nat) : Int) = (r.length : Nat) + 2 := by simp only [List.length_cons]; omega
    have hne : ¬ (((c :: d :: q : List Nd).length : Nat) : Int) = 1 := by simp only [List.length_cons]; omega
    have hne2 : ¬ ((((c :: d :: q) :: b :: r : List (List Nd))[Int.toNat 0]'(Nat.succ_pos _)).length : Int) = 1 := hne
    have e : ctP4 ((c :: d :: q) :: b :: r) = (⟨4, ⟨#[]⟩, ⟨#[]⟩, ⟨#[]⟩⟩, false) := rfl
    rw [e]
    by_cases hr : r.length ≤ 1
    · repeat (first | refine awp_seq ?_ | refine thenA_normal ?_ | refine a_region ?_ | refine awp_ret ?_ | refine thenA_ret ?_ | refine r_done ?_ | (refine r_id ?_; first | refine r_len tab_ok rfl rfl rfl rfl rfl rfl rfl ?_ | refine r_ev tab_ok rfl rfl rfl rfl (by first | exact trivial | exact ⟨by omega, by omega⟩ | omega | exact ⟨by omega, by omega, by omega, by omega⟩ | exact Nat.le_of_ble_eq_true rfl) rfl ?_ | refine r_ld tab_ok rfl rfl rfl rfl rfl ?_ | refine r_idx tab_ok rfl rfl rfl rfl rfl rfl rfl (by first | exact ⟨by omega, by omega⟩ | (simp; omega)) rfl rfl ?_ | refine r_st tab_ok rfl rfl rfl rfl ?_ | refine r_pick_f rfl rfl rfl rfl rfl rfl rfl ?_ | refine r_len_on tab_ok rfl rfl rfl rfl rfl rfl rfl rfl rfl ?_ | refine r_ev_on tab_ok rfl rfl rfl rfl rfl rfl (by first | exact trivial | exact ⟨by omega, by omega⟩ | omega) rfl ?_) | refine awp_cond_t rfl ?_ | refine r_g rfl rfl (congrArg (fun b => AV.val (.bool b)) (decide_eq_false (by omega))) ?_ | refine r_pick_f rfl rfl (congrArg (fun b => AV.val (.bool b)) (decide_eq_false (by omega))) rfl rfl rfl rfl ?_)
      all_goals exact ret2ct tab_ok (by first | exact .inl rfl | exact .inr rfl) rfl rfl rfl rfl rfl rfl rfl (Sub.refl _) (Sub.refl _)
    · repeat (first | refine awp_seq ?_ | refine thenA_normal ?_ | refine a_region ?_ | refine awp_ret ?_ | refine thenA_ret ?_ | refine r_done ?_ | (refine r_id ?_; first | refine r_len tab_ok rfl rfl rfl rfl rfl rfl rfl ?_ | refine r_ev tab_ok rfl rfl rfl rfl (by first | exact trivial | exact ⟨by omega, by omega⟩ | omega | exact ⟨by omega, by omega, by omega, by omega⟩ | exact Nat.le_of_ble_eq_true rfl) rfl ?_ | refine r_ld tab_ok rfl rfl rfl rfl rfl ?_ | refine r_st tab_ok rfl rfl rfl rfl ?_ | refine r_pick_f rfl rfl rfl rfl rfl rfl rfl ?_ | refine r_len_on tab_ok rfl rfl rfl rfl rfl rfl rfl rfl rfl ?_ | refine r_ev_on tab_ok rfl rfl rfl rfl rfl rfl (by first | exact trivial | exact ⟨by omega, by omega⟩ | omega) rfl ?_) | refine awp_cond_t rfl ?_ | refine r_pick_t rfl rfl (congrArg (fun b => AV.val (.bool b)) (decide_eq_true (by omega))) rfl rfl rfl rfl ?_ | refine r_off rfl rfl (congrArg (fun b => AV.val (.bool b)) (decide_eq_true (by omega))) rfl rfl rfl ?_)
      all_goals exact ret2ct tab_ok (by first | exact .inl rfl | exact .inr rfl) rfl rfl rfl rfl rfl rfl rfl (Sub.refl _) (Sub.refl _)
  | [c] :: b :: r, hpz, hpt, hpl, hlm =>
    have hlen : ((([c] :: b :: r : List (List Nd)).length : Nat) : Int) = (r.length : Nat) + 2 := by simp only [List.length_cons]; omega
    have hone : ((([c] :: b :: r : List (List Nd))[Int.toNat 0]'(Nat.succ_pos _)).length : Int) = 1 := rfl
    have hct := counter_ok c (hpt [c] (by simp) c (by simp))
    by_cases hr : r.length ≤ 1
    · repeat (first | refine awp_seq ?_ | refine thenA_normal ?_ | refine a_region ?_ | refine awp_skip ?_ | refine r_done ?_ | (refine r_id ?_; first | refine r_len tab_ok rfl rfl rfl rfl rfl rfl rfl ?_ | refine r_ev tab_ok rfl rfl rfl rfl (by first | exact trivial | exact ⟨by omega, by omega⟩ | omega | exact ⟨by omega, by omega, by omega, by omega⟩ | exact Nat.le_of_ble_eq_true rfl) rfl ?_ | refine r_ld tab_ok rfl rfl rfl rfl rfl ?_ | refine r_idx tab_ok rfl rfl rfl rfl rfl rfl rfl (by first | exact ⟨by omega, by omega⟩ | (simp; omega)) rfl rfl ?_ | refine r_pick_f rfl rfl rfl rfl rfl rfl rfl ?_ | refine r_len_on tab_ok rfl rfl rfl rfl rfl rfl rfl rfl rfl ?_ | refine r_ev_on tab_ok rfl rfl rfl rfl rfl rfl (by first | exact trivial | exact ⟨by omega, by omega⟩ | omega) rfl ?_) | refine awp_cond_t rfl ?_ | refine awp_cond_f rfl ?_ | refine r_g rfl rfl (congrArg (fun b => AV.val (.bool b)) (decide_eq_false (by omega))) ?_ | refine r_pick_f rfl rfl (congrArg (fun b => AV.val (.bool b)) (decide_eq_false (by omega))) rfl rfl rfl rfl ?_)
      refine r_call hct call128 rfl rfl ⟨Sub.refl _, trivial⟩ rfl rfl rfl rfl ?_
      repeat (first | refine awp_seq ?_ | refine thenA_normal ?_ | refine a_region ?_ | refine r_done ?_ | (refine r_id ?_; first | refine r_ev tab_ok rfl rfl rfl rfl (by first | exact trivial | exact ⟨by omega, by omega⟩ | omega | exact ⟨by omega, by omega, by omega, by omega⟩ | exact Nat.le_of_ble_eq_true rfl) rfl ?_ | refine r_st tab_ok rfl rfl rfl rfl ?_))
      refine awp_cond rfl (fun hno => ?_) (fun hyes => ?_)
      · have e2 : (cntF c).2 = false := by simpa using hno
        have e : ctP4 ([c] :: b :: r) = (⟨4, (cntF c).1, ⟨#[]⟩, ⟨#[]⟩⟩, false) := by simp only [ctP4, if_pos hr, e2, if_neg Bool.false_ne_true]
        rw [e]
        repeat (first | refine awp_seq ?_ | refine thenA_normal ?_ | refine a_region ?_ | refine awp_ret ?_ | refine thenA_ret ?_ | refine r_done ?_ | (refine r_id ?_; first | refine r_ev tab_ok rfl rfl rfl rfl (by first | exact trivial | exact ⟨by omega, by omega⟩ | omega | exact ⟨by omega, by omega, by omega, by omega⟩ | exact Nat.le_of_ble_eq_true rfl) rfl ?_ | refine r_ld tab_ok rfl rfl rfl rfl rfl ?_ | refine r_st tab_ok rfl rfl rfl rfl ?_))
        all_goals exact ret2ct tab_ok (by first | exact .inl rfl | exact .inr rfl) rfl rfl rfl rfl rfl rfl rfl (Sub.refl _) (Sub.refl _)
      · have e2 : (cntF c).2 = true := by simpa using hyes
        match b, hpz, hpt with
        | [], _, _ =>
          have hb1 : ¬ ((([c] :: [] :: r : List (List Nd))[Int.toNat 1]'(Nat.succ_lt_succ (Nat.succ_pos _))).length : Int) = 1 := by show ¬ (0 : Int) = 1; decide
          have e : ctP4 ([c] :: [] :: r) = (⟨4, (cntF c).1, ⟨#[]⟩, ⟨#[]⟩⟩, false) := by simp only [ctP4, if_pos hr, e2, if_pos]
          rw [e]
          repeat (first | refine awp_seq ?_ | refine thenA_normal ?_ | refine a_region ?_ | refine awp_ret ?_ | refine thenA_ret ?_ | refine awp_skip ?_ | refine r_done ?_ | (refine r_id ?_; first | refine r_len tab_ok rfl rfl rfl rfl rfl rfl rfl ?_ | refine r_ev tab_ok rfl rfl rfl rfl (by first | exact trivial | exact ⟨by omega, by omega⟩ | omega | exact ⟨by omega, by omega, by omega, by omega⟩ | exact Nat.le_of_ble_eq_true rfl) rfl ?_ | refine r_ld tab_ok rfl rfl rfl rfl rfl ?_ | refine r_idx tab_ok rfl rfl rfl rfl rfl rfl rfl (by first | exact ⟨by omega, by omega⟩ | (simp; omega)) rfl rfl ?_ | refine r_st tab_ok rfl rfl rfl rfl ?_ | refine r_pick_t rfl rfl rfl rfl rfl rfl rfl ?_ | refine r_off rfl rfl rfl rfl rfl rfl ?_) | refine awp_cond_t rfl ?_)
          all_goals exact ret2ct tab_ok (by first | exact .inl rfl | exact .inr rfl) rfl rfl rfl rfl rfl rfl rfl (Sub.refl _) (Sub.refl _)
        | m :: m2 :: q, _, _ =>
          have hne : ¬ (((m :: m2 :: q : List Nd).length : Nat) : Int) = 1 := by simp only [List.length_cons]; omega
          have hb1 : ¬ ((([c] :: (m :: m2 :: q) :: r : List (List Nd))[Int.toNat 1]'(Nat.succ_lt_succ (Nat.succ_pos _))).length : Int) = 1 := hne
          have e : ctP4 ([c] :: (m :: m2 :: q) :: r) = (⟨4, (cntF c).1, ⟨#[]⟩, ⟨#[]⟩⟩, false) := by simp only [ctP4, if_pos hr, e2, if_pos]
          rw [e]
          repeat (first | refine awp_seq ?_ | refine thenA_normal ?_ | refine a_region ?_ | refine awp_ret ?_ | refine thenA_ret ?_ | refine awp_skip ?_ | refine r_done ?_ | (refine r_id ?_; first | refine r_len tab_ok rfl rfl rfl rfl rfl rfl rfl ?_ | refine r_ev tab_ok rfl rfl rfl rfl (by first | exact trivial | exact ⟨by omega, by omega⟩ | omega | exact ⟨by omega, by omega, by omega, by omega⟩ | exact Nat.le_of_ble_eq_true rfl) rfl ?_ | refine r_ld tab_ok rfl rfl rfl rfl rfl ?_ | refine r_idx tab_ok rfl rfl rfl rfl rfl rfl rfl (by first | exact ⟨by omega, by omega⟩ | (simp; omega)) rfl rfl ?_ | refine r_st tab_ok rfl rfl rfl rfl ?_ | refine r_pick_t rfl rfl rfl rfl rfl rfl rfl ?_ | refine r_off rfl rfl rfl rfl rfl rfl ?_) | refine awp_cond_t rfl ?_)
          all_goals exact ret2ct tab_ok (by first | exact .inl rfl | exact .inr rfl) rfl rfl rfl rfl rfl rfl rfl (Sub.refl _) (Sub.refl _)
        | [m], hpz, hpt =>
          have hb1 : ((([c] :: [m] :: r : List (List Nd))[Int.toNat 1]'(Nat.succ_lt_succ (Nat.succ_pos _))).length : Int) = 1 := rfl
          by_cases hk : m.tok.kind = 5
          · have hk2 : ((([c] :: [m] :: r : List (List Nd))[Int.toNat 1]'(Nat.succ_lt_succ (Nat.succ_pos _)))[Int.toNat 0]'(Nat.succ_pos _)).tok.kind = 5 := hk
            have e : ctP4 ([c] :: [m] :: r) = ctSt 4 (cntF c).1 m.tok.text r := by simp only [ctP4, if_pos hr, e2, if_pos, if_pos hk]
            rw [e]
            match r, hr, hpz, hpt with
            | [], _, _, _ =>
              rw [show ctSt 4 (cntF c).1 m.tok.text [] = (⟨4, (cntF c).1, m.tok.text, ⟨#[100, 101, 99, 105, 109, 97, 108]⟩⟩, true) from rfl]
              repeat (first | refine awp_seq ?_ | refine thenA_normal ?_ | refine a_region ?_ | refine awp_skip ?_ | refine r_done ?_ | (refine r_id ?_; first | refine r_len tab_ok rfl rfl rfl rfl rfl rfl rfl ?_ | refine r_ev tab_ok rfl rfl rfl rfl (by first | exact trivial | exact ⟨by omega, by omega⟩ | omega | exact ⟨by omega, by omega, by omega, by omega⟩ | exact Nat.le_of_ble_eq_true rfl) rfl ?_ | refine r_idx tab_ok rfl rfl rfl rfl rfl rfl rfl (by first | exact ⟨by omega, by omega⟩ | (simp; omega)) rfl rfl ?_ | refine r_pick_f rfl rfl rfl rfl rfl rfl rfl ?_ | refine r_ev_on tab_ok rfl rfl rfl rfl rfl rfl (by first | exact trivial | exact ⟨by omega, by omega⟩ | omega) rfl ?_) | refine awp_cond_t rfl ?_ | refine r_g rfl rfl rfl ?_)
              refine awp_cond_n rfl (fun h => absurd hk2 h) (fun _ => ?_)
              repeat (first | refine awp_seq ?_ | refine thenA_normal ?_ | refine a_region ?_ | refine awp_ret ?_ | refine awp_skip ?_ | refine r_done ?_ | (refine r_id ?_; first | refine r_len tab_ok rfl rfl rfl rfl rfl rfl rfl ?_ | refine r_ev tab_ok rfl rfl rfl rfl (by first | exact trivial | exact ⟨by omega, by omega⟩ | omega | exact ⟨by omega, by omega, by omega, by omega⟩ | exact Nat.le_of_ble_eq_true rfl) rfl ?_ | refine r_ld tab_ok rfl rfl rfl rfl rfl ?_ | refine r_idx tab_ok rfl rfl rfl rfl rfl rfl rfl (by first | exact ⟨by omega, by omega⟩ | (simp; omega)) rfl rfl ?_ | refine r_st tab_ok rfl rfl rfl rfl ?_) | refine awp_cond_f rfl ?_)
              all_goals exact ret2ct tab_ok (by first | exact .inl rfl | exact .inr rfl) rfl rfl rfl rfl rfl rfl rfl (Sub.refl _) (Sub.of_eq (by rw [e2]))
            | [p], _, hpz, hpt =>
              have hst := style_ok p (hpz p (by simp)) (hpt p (by simp))
              repeat (first | refine awp_seq ?_ | refine thenA_normal ?_ | refine a_region ?_ | refine awp_skip ?_ | refine r_done ?_ | (refine r_id ?_; first | refine r_len tab_ok rfl rfl rfl rfl rfl rfl rfl ?_ | refine r_ev tab_ok rfl rfl rfl rfl (by first | exact trivial | exact ⟨by omega, by omega⟩ | omega | exact ⟨by omega, by omega, by omega, by omega⟩ | exact Nat.le_of_ble_eq_true rfl) rfl ?_ | refine r_idx tab_ok rfl rfl rfl rfl rfl rfl rfl (by first | exact ⟨by omega, by omega⟩ | (simp; omega)) rfl rfl ?_ | refine r_pick_f rfl rfl rfl rfl rfl rfl rfl ?_ | refine r_ev_on tab_ok rfl rfl rfl rfl rfl rfl (by first | exact trivial | exact ⟨by omega, by omega⟩ | omega) rfl ?_) | refine awp_cond_t rfl ?_ | refine r_g rfl rfl rfl ?_)
              refine awp_cond_n rfl (fun h => absurd hk2 h) (fun _ => ?_)
              repeat (first | refine awp_seq ?_ | refine thenA_normal ?_ | refine a_region ?_ | refine awp_skip ?_ | refine r_done ?_ | (refine r_id ?_; first | refine r_len tab_ok rfl rfl rfl rfl rfl rfl rfl ?_ | refine r_ev tab_ok rfl rfl rfl rfl (by first | exact trivial | exact ⟨by omega, by omega⟩ | omega | exact ⟨by omega, by omega, by omega, by omega⟩ | exact Nat.le_of_ble_eq_true rfl) rfl ?_ | refine r_idx tab_ok rfl rfl rfl rfl rfl rfl rfl (by first | exact ⟨by omega, by omega⟩ | (simp; omega)) rfl rfl ?_ | refine r_idxd tab_ok rfl rfl rfl rfl rfl rfl rfl (by decide) rfl rfl rfl ?_ | refine r_st tab_ok rfl rfl rfl rfl ?_) | refine awp_cond_t rfl ?_)
              refine r_call hst call114 rfl rfl ⟨Sub.refl _, trivial⟩ rfl rfl rfl rfl ?_
              repeat (first | refine awp_seq ?_ | refine thenA_normal ?_ | refine a_region ?_ | refine awp_ret ?_ | refine r_done ?_ | (refine r_id ?_; first | refine r_ev tab_ok rfl rfl rfl rfl (by first | exact trivial | exact ⟨by omega, by omega⟩ | omega | exact ⟨by omega, by omega, by omega, by omega⟩ | exact Nat.le_of_ble_eq_true rfl) rfl ?_ | refine r_ld tab_ok rfl rfl rfl rfl rfl ?_ | refine r_st tab_ok rfl rfl rfl rfl ?_))
              all_goals exact ret2ct tab_ok (by first | exact .inl rfl | exact .inr rfl) rfl rfl rfl rfl rfl rfl rfl (Sub.refl _) (Sub.refl _)
            | _ :: _ :: _, hr, _, _ => simp only [List.length_cons] at hr; omega
          · have hk2 : ¬ ((([c] :: [m] :: r : List (List Nd))[Int.toNat 1]'(Nat.succ_lt_succ (Nat.succ_pos _)))[Int.toNat 0]'(Nat.succ_pos _)).tok.kind = 5 := hk
            have e : ctP4 ([c] :: [m] :: r) = (⟨4, (cntF c).1, ⟨#[]⟩, ⟨#[]⟩⟩, false) := by simp only [ctP4, if_pos hr, e2, if_pos, if_neg hk]
            rw [e]
            repeat (first | refine awp_seq ?_ | refine thenA_normal ?_ | refine a_region ?_ | refine awp_skip ?_ | refine r_done ?_ | (refine r_id ?_; first | refine r_len tab_ok rfl rfl rfl rfl rfl rfl rfl ?_ | refine r_ev tab_ok rfl rfl rfl rfl (by first | exact trivial | exact ⟨by omega, by omega⟩ | omega | exact ⟨by omega, by omega, by omega, by omega⟩ | exact Nat.le_of_ble_eq_true rfl) rfl ?_ | refine r_idx tab_ok rfl rfl rfl rfl rfl rfl rfl (by first | exact ⟨by omega, by omega⟩ | (simp; omega)) rfl rfl ?_ | refine r_pick_f rfl rfl rfl rfl rfl rfl rfl ?_ | refine r_ev_on tab_ok rfl rfl rfl rfl rfl rfl (by first | exact trivial | exact ⟨by omega, by omega⟩ | omega) rfl ?_) | refine awp_cond_t rfl ?_ | refine r_g rfl rfl rfl ?_)
            refine awp_cond_n rfl (fun _ => ?_) (fun h => absurd h hk2)
            repeat (first | refine awp_seq ?_ | refine thenA_normal ?_ | refine a_region ?_ | refine awp_ret ?_ | refine thenA_ret ?_ | refine r_done ?_ | (refine r_id ?_; first | refine r_ev tab_ok rfl rfl rfl rfl (by first | exact trivial | exact ⟨by omega, by omega⟩ | omega | exact ⟨by omega, by omega, by omega, by omega⟩ | exact Nat.le_of_ble_eq_true rfl) rfl ?_ | refine r_ld tab_ok rfl rfl rfl rfl rfl ?_ | refine r_st tab_ok rfl rfl rfl rfl ?_))
            all_goals exact ret2ct tab_ok (by first | exact .inl rfl | exact .inr rfl) rfl rfl rfl rfl rfl rfl rfl (Sub.refl _) (Sub.refl _)
    · have e : ctP4 ([c] :: b :: r) = (⟨4, ⟨#[]⟩, ⟨#[]⟩, ⟨#[]⟩⟩, false) := by simp only [ctP4, if_neg hr]
      rw [e]
      repeat (first | refine awp_seq ?_ | refine thenA_normal ?_ | refine a_region ?_ | refine awp_ret ?_ | refine thenA_ret ?_ | refine r_done ?_ | (refine r_id ?_; first | refine r_len tab_ok rfl rfl rfl rfl rfl rfl rfl ?_ | refine r_ev tab_ok rfl rfl rfl rfl (by first | exact trivial | exact ⟨by omega, by omega⟩ | omega | exact ⟨by omega, by omega, by omega, by omega⟩ | exact Nat.le_of_ble_eq_true rfl) rfl ?_ | refine r_ld tab_ok rfl rfl rfl rfl rfl ?_ | refine r_st tab_ok rfl rfl rfl rfl ?_ | refine r_pick_f rfl rfl rfl rfl rfl rfl rfl ?_ | refine r_len_on tab_ok rfl rfl rfl rfl rfl rfl rfl rfl rfl ?_ | refine r_ev_on tab_ok rfl rfl rfl rfl rfl rfl (by first | exact trivial | exact ⟨by omega, by omega⟩ | omega) rfl ?_) | refine awp_cond_t rfl ?_ | refine r_pick_t rfl rfl (congrArg (fun b => AV.val (.bool b)) (decide_eq_true (by omega))) rfl rfl rfl rfl ?_ | refine r_off rfl rfl (congrArg (fun b => AV.val (.bool b)) (decide_eq_true (by omega))) rfl rfl rfl ?_)
      all_goals exact ret2ct tab_ok (by first | exact .inl rfl | exact .inr rfl) rfl rfl rfl rfl rfl rfl rfl (Sub.refl _) (Sub.refl _)
end Go.Proofs.YtllmagfmbglefaaDoor

/- prop.item; walked. -/
namespace Go.Proofs.YtllmagfmbglefaaDoor
open Go Go.RowKit
set_option maxRecDepth 20000

theorem func_ok' (n : Nd) (w : ByteArray) (h : n.tok.text.size ≤ 1099511627776) : PCalls Tryd.prog 126 [nA n, .val (.string w)] (.val (.bool (isFn n w))) := func_ok n w h
set_option maxHeartbeats 4000000 in
theorem item_ok (n : Nd) (hs : nsz n < 1099511627776) (ht : n.tok.text.size ≤ 1099511627776) (hk : ∀ m ∈ n.kids, m.tok.text.size ≤ 1099511627776) : PCalls Tryd.prog 112 [nA n] (.tup [itA (itemF n).1, .val (.bool (itemF n).2)]) := by
  have hkz : nszs n.kids < 1099511627776 := by
    obtain ⟨t, k⟩ := n
    rw [nsz] at hs
    show nszs k < _
    omega
  have hll := nszs_len n.kids
  have hm : ∀ m ∈ tigF n.kids, m.tok.text.size ≤ 1099511627776 := fun m h => hk m (tigF_mem h)
  have hl := tigF_len n.kids
  have hz : nszs (tigF n.kids) < 1099511627776 := Nat.lt_of_le_of_lt (tigF_sz _) hkz
  refine p_start Tryd.func112 Tryd.ntmps112 rfl rfl rfl fun S w0 => ?_
  repeat (first | refine awp_seq ?_ | refine a_region ?_ | refine r_done ?_ | (refine r_id ?_; first | refine r_ev tab_ok rfl rfl rfl rfl (by first | exact trivial | exact ⟨by omega, by omega⟩ | omega | exact ⟨by omega, by omega, by omega, by omega⟩ | exact Nat.le_of_ble_eq_true rfl) rfl ?_ | refine r_ld tab_ok rfl rfl rfl rfl rfl ?_ | refine r_wr tab_ok rfl rfl rfl rfl rfl ?_))
  refine r_call (show PCalls Tryd.prog 52 [.sl 7 (n.kids.map nD)] (.sl 7 ((tigF n.kids).map nF)) by rw [nD_fun]; exact tight_ok n.kids hkz) call52 rfl rfl ⟨Sub.refl _, trivial⟩ rfl rfl rfl rfl ?_
  repeat (first | refine awp_seq ?_ | refine a_region ?_ | refine r_done ?_ | (refine r_id ?_; first | refine r_ev tab_ok rfl rfl rfl rfl (by first | exact trivial | exact ⟨by omega, by omega⟩ | omega | exact ⟨by omega, by omega, by omega, by omega⟩ | exact Nat.le_of_ble_eq_true rfl) rfl ?_ | refine r_ld tab_ok rfl rfl rfl rfl rfl ?_))
  refine r_call (pident_ok n ht) call80 rfl rfl ⟨Sub.refl _, trivial⟩ rfl rfl rfl rfl ?_
  repeat (first | refine awp_seq ?_ | refine thenA_normal ?_ | refine awp_block ?_ | refine a_region ?_ | refine r_done ?_ | (refine r_id ?_; first | refine r_ev tab_ok rfl rfl rfl rfl (by first | exact trivial | exact ⟨by omega, by omega⟩ | omega | exact ⟨by omega, by omega, by omega, by omega⟩ | exact Nat.le_of_ble_eq_true rfl) rfl ?_ | refine r_ld tab_ok rfl rfl rfl rfl rfl ?_))
  refine awp_cond_p rfl (fun hk5 => ?_) (fun hk5 => ?_)
  · rw [show itemF n = (⟨1, n.tok.text, ⟨#[]⟩, ⟨#[]⟩⟩, true) from if_pos hk5]
    repeat (first | refine awp_seq ?_ | refine thenA_normal ?_ | refine a_region ?_ | refine awp_ret ?_ | refine thenA_ret ?_ | refine blockA_ret ?_ | refine r_done ?_ | (refine r_id ?_; first | refine r_ev tab_ok rfl rfl rfl rfl (by first | exact trivial | exact ⟨by omega, by omega⟩ | omega | exact ⟨by omega, by omega, by omega, by omega⟩ | exact Nat.le_of_ble_eq_true rfl) rfl ?_ | refine r_ld tab_ok rfl rfl rfl rfl rfl ?_ | refine r_st tab_ok rfl rfl rfl rfl ?_ | refine r_build tab_ok rfl rfl rfl rfl rfl rfl ?_))
    all_goals exact ret2ct tab_ok (by first | exact .inl rfl | exact .inr rfl) rfl rfl rfl rfl rfl rfl rfl (Sub.refl _) (Sub.refl _)
  rw [show itemF n = if (idnF n).2 && inW qtS (idnF n).1 then (⟨4 + (idxF (fldF qtS) (idnF n).1 + 1), ⟨#[]⟩, ⟨#[]⟩, ⟨#[]⟩⟩, true) else itemF1 n (tigF n.kids) from if_neg hk5]
  repeat (first | refine awp_seq ?_ | refine a_region ?_ | (refine r_id ?_; first | refine r_ev tab_ok rfl rfl rfl rfl (by first | exact trivial | exact ⟨by omega, by omega⟩ | omega | exact ⟨by omega, by omega, by omega, by omega⟩ | exact Nat.le_of_ble_eq_true rfl) rfl ?_ | refine r_ev_cnd tab_ok rfl rfl rfl rfl rfl rfl (by first | exact fun _ => rfl | exact cs1 | exact cs2 | exact cs3) (by first | exact fun _ => trivial | (intro h; simp at h; first | exact ⟨by omega, by omega⟩ | omega)) rfl ?_))
  refine r_call_cnd (fun _ => fld_idx qtS (idnF n).1 (by decide) (by kernel_rfl)) call53 rfl rfl rfl rfl (by first | exact fun _ => rfl | exact cs1 | exact cs2 | exact cs3) ⟨Sub.refl _, Sub.refl _, trivial⟩ rfl rfl rfl rfl ?_
  repeat (first | refine thenA_normal ?_ | refine r_done ?_ | (refine r_id ?_; first | refine r_ev tab_ok rfl rfl rfl rfl (by first | exact trivial | exact ⟨by omega, by omega⟩ | omega | exact ⟨by omega, by omega, by omega, by omega⟩ | exact Nat.le_of_ble_eq_true rfl) rfl ?_ | refine r_ev_cnd tab_ok rfl rfl rfl rfl rfl rfl (by first | exact fun _ => rfl | exact cs1 | exact cs2 | exact cs3) (by first | exact fun _ => trivial | (intro h; simp at h; first | exact ⟨by omega, by omega⟩ | omega)) rfl ?_ | refine r_and rfl rfl rfl rfl rfl rfl rfl rfl ?_))
  refine awp_cond rfl (fun hc => ?_) (fun hc => ?_)
  · have hq : ((idnF n).2 && inW qtS (idnF n).1) = true := by
      rw [inW]
      cases h1 : (idnF n).2 <;> simp [h1] at hc ⊢
      exact hc
    have hb : -1 ≤ idxF (fldF qtS) (idnF n).1 ∧ idxF (fldF qtS) (idnF n).1 ≤ 4 := by
      have : (fldF qtS).length = 4 := by kernel_rfl
      rw [idxF]
      split <;> omega
    rw [hq, if_pos rfl]
    repeat (first | refine awp_seq ?_ | refine a_region ?_ | (refine r_id ?_; first | refine r_ev tab_ok rfl rfl rfl rfl (by first | exact trivial | exact ⟨by omega, by omega⟩ | omega | exact ⟨by omega, by omega, by omega, by omega⟩ | exact Nat.le_of_ble_eq_true rfl) rfl ?_))
    refine r_call (fld_idx qtS (idnF n).1 (by decide) (by kernel_rfl)) call53 rfl rfl ⟨Sub.refl _, Sub.refl _, trivial⟩ rfl rfl rfl rfl ?_
    repeat (first | refine thenA_normal ?_ | refine awp_ret ?_ | refine thenA_ret ?_ | refine blockA_ret ?_ | refine r_done ?_ | (refine r_id ?_; first | refine r_ev tab_ok rfl rfl rfl rfl (by first | exact trivial | exact ⟨by omega, by omega⟩ | omega | exact ⟨by omega, by omega, by omega, by omega⟩ | exact Nat.le_of_ble_eq_true rfl) rfl ?_ | refine r_st tab_ok rfl rfl rfl rfl ?_ | refine r_build tab_ok rfl rfl rfl rfl rfl rfl ?_))
    all_goals exact ret2ct tab_ok (by first | exact .inl rfl | exact .inr rfl) rfl rfl rfl rfl rfl rfl rfl (Sub.refl _) (Sub.refl _)
  · have hq : ((idnF n).2 && inW qtS (idnF n).1) = false := by
      rw [inW]
      cases h1 : (idnF n).2 <;> simp [h1] at hc ⊢
      exact hc
    rw [hq, if_neg Bool.false_ne_true]
    repeat (first | refine awp_seq ?_ | refine a_region ?_ | (refine r_id ?_; first | refine r_ld tab_ok rfl rfl rfl rfl rfl ?_))
    refine r_call (func_ok' n atS ht) call126 rfl rfl ⟨Sub.refl _, Sub.refl _, trivial⟩ rfl rfl rfl rfl ?_
    obtain ⟨l, hl2⟩ : ∃ l, l = tigF n.kids := ⟨_, rfl⟩
    rw [← hl2] at hm hl hz ⊢
    have hlm : (l.map nF).length = l.length := List.length_map _
    clear hl2
    cases ha : isFn n atS with
    | false =>
      rw [show itemF1 n l = itemF2 n l by unfold itemF1; split <;> simp [ha]]
      repeat (first | refine awp_seq ?_ | refine thenA_normal ?_ | refine a_region ?_ | refine r_done ?_ | (refine r_id ?_; first | refine r_ev tab_ok rfl rfl rfl rfl (by first | exact trivial | exact ⟨by omega, by omega⟩ | omega | exact ⟨by omega, by omega, by omega, by omega⟩ | exact Nat.le_of_ble_eq_true rfl) rfl ?_ | refine r_ld tab_ok rfl rfl rfl rfl rfl ?_ | refine r_len_cnd tab_ok rfl rfl rfl rfl rfl rfl (by first | exact fun _ => rfl | exact cs1) rfl rfl rfl ?_ | refine r_ev_cnd tab_ok rfl rfl rfl rfl rfl rfl (by first | exact fun _ => rfl | exact cs1 | exact cs2 | exact cs3) (by first | exact fun _ => trivial | (intro h; simp at h; first | exact ⟨by omega, by omega⟩ | omega)) rfl ?_ | refine r_and rfl rfl rfl rfl rfl rfl rfl rfl ?_) | refine awp_cond_f rfl ?_)
      refine r_call (func_ok' n ctrS ht) call126 rfl rfl ⟨Sub.refl _, Sub.refl _, trivial⟩ rfl rfl rfl rfl ?_
      rw [itemF2]
      cases hb2 : isFn n ctrS with
      | true =>
        rw [if_pos rfl]
        repeat (first | refine awp_seq ?_ | refine thenA_normal ?_ | refine a_region ?_ | refine r_done ?_ | (refine r_id ?_; first | refine r_ev tab_ok rfl rfl rfl rfl (by first | exact trivial | exact ⟨by omega, by omega⟩ | omega | exact ⟨by omega, by omega, by omega, by omega⟩ | exact Nat.le_of_ble_eq_true rfl) rfl ?_ | refine r_build tab_ok rfl rfl rfl rfl rfl rfl ?_) | refine awp_cond_t rfl ?_)
        refine r_call (counted3_ok _ hz hm) call127 rfl rfl ⟨Sub.refl _, Sub.refl _, trivial⟩ rfl rfl rfl rfl ?_
        repeat (first | refine thenA_normal ?_ | refine awp_ret ?_ | refine thenA_ret ?_ | refine blockA_ret ?_ | refine r_done ?_ | (refine r_id ?_; first | refine r_ev tab_ok rfl rfl rfl rfl (by first | exact trivial | exact ⟨by omega, by omega⟩ | omega | exact ⟨by omega, by omega, by omega, by omega⟩ | exact Nat.le_of_ble_eq_true rfl) rfl ?_ | refine r_st tab_ok rfl rfl rfl rfl ?_))
        all_goals exact ret2ct tab_ok (by first | exact .inl rfl | exact .inr rfl) rfl rfl rfl rfl rfl rfl rfl (Sub.refl _) (Sub.refl _)
      | false =>
        rw [if_neg Bool.false_ne_true]
        repeat (first | refine awp_seq ?_ | refine thenA_normal ?_ | refine a_region ?_ | refine r_done ?_ | (refine r_id ?_; first | refine r_ev tab_ok rfl rfl rfl rfl (by first | exact trivial | exact ⟨by omega, by omega⟩ | omega | exact ⟨by omega, by omega, by omega, by omega⟩ | exact Nat.le_of_ble_eq_true rfl) rfl ?_ | refine r_ld tab_ok rfl rfl rfl rfl rfl ?_) | refine awp_cond_f rfl ?_)
        refine r_call (func_ok' n ctsS ht) call126 rfl rfl ⟨Sub.refl _, Sub.refl _, trivial⟩ rfl rfl rfl rfl ?_
        cases hb3 : isFn n ctsS with
        | true =>
          rw [if_pos rfl]
          repeat (first | refine awp_seq ?_ | refine thenA_normal ?_ | refine a_region ?_ | refine r_done ?_ | (refine r_id ?_; first | refine r_ev tab_ok rfl rfl rfl rfl (by first | exact trivial | exact ⟨by omega, by omega⟩ | omega | exact ⟨by omega, by omega, by omega, by omega⟩ | exact Nat.le_of_ble_eq_true rfl) rfl ?_ | refine r_build tab_ok rfl rfl rfl rfl rfl rfl ?_) | refine awp_cond_t rfl ?_)
          refine r_call (counted4_ok _ hz hm) call127 rfl rfl ⟨Sub.refl _, Sub.refl _, trivial⟩ rfl rfl rfl rfl ?_
          repeat (first | refine thenA_normal ?_ | refine awp_ret ?_ | refine thenA_ret ?_ | refine blockA_ret ?_ | refine r_done ?_ | (refine r_id ?_; first | refine r_ev tab_ok rfl rfl rfl rfl (by first | exact trivial | exact ⟨by omega, by omega⟩ | omega | exact ⟨by omega, by omega, by omega, by omega⟩ | exact Nat.le_of_ble_eq_true rfl) rfl ?_ | refine r_st tab_ok rfl rfl rfl rfl ?_))
          all_goals exact ret2ct tab_ok (by first | exact .inl rfl | exact .inr rfl) rfl rfl rfl rfl rfl rfl rfl (Sub.refl _) (Sub.refl _)
        | false =>
          rw [if_neg Bool.false_ne_true]
          repeat (first | refine awp_seq ?_ | refine thenA_normal ?_ | refine a_region ?_ | refine awp_ret ?_ | refine awp_skip ?_ | refine r_done ?_ | (refine r_id ?_; first | refine r_ev tab_ok rfl rfl rfl rfl (by first | exact trivial | exact ⟨by omega, by omega⟩ | omega | exact ⟨by omega, by omega, by omega, by omega⟩ | exact Nat.le_of_ble_eq_true rfl) rfl ?_ | refine r_st tab_ok rfl rfl rfl rfl ?_ | refine r_build tab_ok rfl rfl rfl rfl rfl rfl ?_) | refine awp_cond_f rfl ?_)
          all_goals exact ret2ct tab_ok (by first | exact .inl rfl | exact .inr rfl) rfl rfl rfl rfl rfl rfl rfl (Sub.refl _) (Sub.refl _)
    | true =>
      match l, hm, hl, hz, hlm with
      | [], hm, hl, hz, hlm =>
        rw [show itemF1 n [] = itemF2 n [] from rfl]
        repeat (first | refine awp_seq ?_ | refine thenA_normal ?_ | refine a_region ?_ | refine r_done ?_ | (refine r_id ?_; first | refine r_ev tab_ok rfl rfl rfl rfl (by first | exact trivial | exact ⟨by omega, by omega⟩ | omega | exact ⟨by omega, by omega, by omega, by omega⟩ | exact Nat.le_of_ble_eq_true rfl) rfl ?_ | refine r_ld tab_ok rfl rfl rfl rfl rfl ?_ | refine r_len_cnd tab_ok rfl rfl rfl rfl rfl rfl (by first | exact fun _ => rfl | exact cs1) rfl rfl rfl ?_ | refine r_ev_cnd tab_ok rfl rfl rfl rfl rfl rfl (by first | exact fun _ => rfl | exact cs1 | exact cs2 | exact cs3) (by first | exact fun _ => trivial | (intro h; simp at h; first | exact ⟨by omega, by omega⟩ | omega)) rfl ?_ | refine r_and rfl rfl rfl rfl rfl rfl rfl rfl ?_) | refine awp_cond_f rfl ?_)
        refine r_call (func_ok' n ctrS ht) call126 rfl rfl ⟨Sub.refl _, Sub.refl _, trivial⟩ rfl rfl rfl rfl ?_
        rw [itemF2]
        cases hb2 : isFn n ctrS with
        | true =>
          rw [if_pos rfl]
          repeat (first | refine awp_seq ?_ | refine thenA_normal ?_ | refine a_region ?_ | refine r_done ?_ | (refine r_id ?_; first | refine r_ev tab_ok rfl rfl rfl rfl (by first | exact trivial | exact ⟨by omega, by omega⟩ | omega | exact ⟨by omega, by omega, by omega, by omega⟩ | exact Nat.le_of_ble_eq_true rfl) rfl ?_ | refine r_build tab_ok rfl rfl rfl rfl rfl rfl ?_) | refine awp_cond_t rfl ?_)
          refine r_call (counted3_ok _ hz hm) call127 rfl rfl ⟨Sub.refl _, Sub.refl _, trivial⟩ rfl rfl rfl rfl ?_
          repeat (first | refine thenA_normal ?_ | refine awp_ret ?_ | refine thenA_ret ?_ | refine blockA_ret ?_ | refine r_done ?_ | (refine r_id ?_; first | refine r_ev tab_ok rfl rfl rfl rfl (by first | exact trivial | exact ⟨by omega, by omega⟩ | omega | exact ⟨by omega, by omega, by omega, by omega⟩ | exact Nat.le_of_ble_eq_true rfl) rfl ?_ | refine r_st tab_ok rfl rfl rfl rfl ?_))
          all_goals exact ret2ct tab_ok (by first | exact .inl rfl | exact .inr rfl) rfl rfl rfl rfl rfl rfl rfl (Sub.refl _) (Sub.refl _)
        | false =>
          rw [if_neg Bool.false_ne_true]
          repeat (first | refine awp_seq ?_ | refine thenA_normal ?_ | refine a_region ?_ | refine r_done ?_ | (refine r_id ?_; first | refine r_ev tab_ok rfl rfl rfl rfl (by first | exact trivial | exact ⟨by omega, by omega⟩ | omega | exact ⟨by omega, by omega, by omega, by omega⟩ | exact Nat.le_of_ble_eq_true rfl) rfl ?_ | refine r_ld tab_ok rfl rfl rfl rfl rfl ?_) | refine awp_cond_f rfl ?_)
          refine r_call (func_ok' n ctsS ht) call126 rfl rfl ⟨Sub.refl _, Sub.refl _, trivial⟩ rfl rfl rfl rfl ?_
          cases hb3 : isFn n ctsS with
          | true =>
            rw [if_pos rfl]
            repeat (first | refine awp_seq ?_ | refine thenA_normal ?_ | refine a_region ?_ | refine r_done ?_ | (refine r_id ?_; first | refine r_ev tab_ok rfl rfl rfl rfl (by first | exact trivial | exact ⟨by omega, by omega⟩ | omega | exact ⟨by omega, by omega, by omega, by omega⟩ | exact Nat.le_of_ble_eq_true rfl) rfl ?_ | refine r_build tab_ok rfl rfl rfl rfl rfl rfl ?_) | refine awp_cond_t rfl ?_)
            refine r_call (counted4_ok _ hz hm) call127 rfl rfl ⟨Sub.refl _, Sub.refl _, trivial⟩ rfl rfl rfl rfl ?_
            repeat (first | refine thenA_normal ?_ | refine awp_ret ?_ | refine thenA_ret ?_ | refine blockA_ret ?_ | refine r_done ?_ | (refine r_id ?_; first | refine r_ev tab_ok rfl rfl rfl rfl (by first | exact trivial | exact ⟨by omega, by omega⟩ | omega | exact ⟨by omega, by omega, by omega, by omega⟩ | exact Nat.le_of_ble_eq_true rfl) rfl ?_ | refine r_st tab_ok rfl rfl rfl rfl ?_))
            all_goals exact ret2ct tab_ok (by first | exact .inl rfl | exact .inr rfl) rfl rfl rfl rfl rfl rfl rfl (Sub.refl _) (Sub.refl _)
          | false =>
            rw [if_neg Bool.false_ne_true]
            repeat (first | refine awp_seq ?_ | refine thenA_normal ?_ | refine a_region ?_ | refine awp_ret ?_ | refine awp_skip ?_ | refine r_done ?_ | (refine r_id ?_; first | refine r_ev tab_ok rfl rfl rfl rfl (by first | exact trivial | exact ⟨by omega, by omega⟩ | omega | exact ⟨by omega, by omega, by omega, by omega⟩ | exact Nat.le_of_ble_eq_true rfl) rfl ?_ | refine r_st tab_ok rfl rfl rfl rfl ?_ | refine r_build tab_ok rfl rfl rfl rfl rfl rfl ?_) | refine awp_cond_f rfl ?_)
            all_goals exact ret2ct tab_ok (by first | exact .inl rfl | exact .inr rfl) rfl rfl rfl rfl rfl rfl rfl (Sub.refl _) (Sub.refl _)
      | a :: b :: r, hm, hl, hz, hlm =>
        have hne : ¬ (((a :: b :: r).length : Nat) : Int) = 1 := by simp only [List.length_cons]; omega
        rw [show itemF1 n (a :: b :: r) = itemF2 n (a :: b :: r) from rfl]
        repeat (first | refine awp_seq ?_ | refine thenA_normal ?_ | refine a_region ?_ | refine r_done ?_ | (refine r_id ?_; first | refine r_ev tab_ok rfl rfl rfl rfl (by first | exact trivial | exact ⟨by omega, by omega⟩ | omega | exact ⟨by omega, by omega, by omega, by omega⟩ | exact Nat.le_of_ble_eq_true rfl) rfl ?_ | refine r_ld tab_ok rfl rfl rfl rfl rfl ?_ | refine r_len_cnd tab_ok rfl rfl rfl rfl rfl rfl (by first | exact fun _ => rfl | exact cs1) rfl rfl rfl ?_ | refine r_ev_cnd tab_ok rfl rfl rfl rfl rfl rfl (by first | exact fun _ => rfl | exact cs1 | exact cs2 | exact cs3) (by first | exact fun _ => trivial | (intro h; simp at h; first | exact ⟨by omega, by omega⟩ | omega)) rfl ?_ | refine r_and rfl rfl rfl rfl rfl rfl rfl rfl ?_) | refine awp_cond_f rfl ?_)
        refine r_call (func_ok' n ctrS ht) call126 rfl rfl ⟨Sub.refl _, Sub.refl _, trivial⟩ rfl rfl rfl rfl ?_
        rw [itemF2]
        cases hb2 : isFn n ctrS with
        | true =>
          rw [if_pos rfl]
          repeat (first | refine awp_seq ?_ | refine thenA_normal ?_ | refine a_region ?_ | refine r_done ?_ | (refine r_id ?_; first | refine r_ev tab_ok rfl rfl rfl rfl (by first | exact trivial | exact ⟨by omega, by omega⟩ | omega | exact ⟨by omega, by omega, by omega, by omega⟩ | exact Nat.le_of_ble_eq_true rfl) rfl ?_ | refine r_build tab_ok rfl rfl rfl rfl rfl rfl ?_) | refine awp_cond_t rfl ?_)
          refine r_call (counted3_ok _ hz hm) call127 rfl rfl ⟨Sub.refl _, Sub.refl _, trivial⟩ rfl rfl rfl rfl ?_
          repeat (first | refine thenA_normal ?_ | refine awp_ret ?_ | refine thenA_ret ?_ | refine blockA_ret ?_ | refine r_done ?_ | (refine r_id ?_; first | refine r_ev tab_ok rfl rfl rfl rfl (by first | exact trivial | exact ⟨by omega, by omega⟩ | omega | exact ⟨by omega, by omega, by omega, by omega⟩ | exact Nat.le_of_ble_eq_true rfl) rfl ?_ | refine r_st tab_ok rfl rfl rfl rfl ?_))
          all_goals exact ret2ct tab_ok (by first | exact .inl rfl | exact .inr rfl) rfl rfl rfl rfl rfl rfl rfl (Sub.refl _) (Sub.refl _)
        | false =>
          rw [if_neg Bool.false_ne_true]
          repeat (first | refine awp_seq ?_ | refine thenA_normal ?_ | refine a_region ?_ | refine r_done ?_ | (refine r_id ?_; first | refine r_ev tab_ok rfl rfl rfl rfl (by first | exact trivial | exact ⟨by omega, by omega⟩ | omega | exact ⟨by omega, by omega, by omega, by omega⟩ | exact Nat.le_of_ble_eq_true rfl) rfl ?_ | refine r_ld tab_ok rfl rfl rfl rfl rfl ?_) | refine awp_cond_f rfl ?_)
          refine r_call (func_ok' n ctsS ht) call126 rfl rfl ⟨Sub.refl _, Sub.refl _, trivial⟩ rfl rfl rfl rfl ?_
          cases hb3 : isFn n ctsS with
          | true =>
            rw [if_pos rfl]
            repeat (first | refine awp_seq ?_ | refine thenA_normal ?_ | refine a_region ?_ | refine r_done ?_ | (refine r_id ?_; first | refine r_ev tab_ok rfl rfl rfl rfl (by first | exact trivial | exact ⟨by omega, by omega⟩ | omega | exact ⟨by omega, by omega, by omega, by omega⟩ | exact Nat.le_of_ble_eq_true rfl) rfl ?_ | refine r_build tab_ok rfl rfl rfl rfl rfl rfl ?_) | refine awp_cond_t rfl ?_)
            refine r_call (counted4_ok _ hz hm) call127 rfl rfl ⟨Sub.refl _, Sub.refl _, trivial⟩ rfl rfl rfl rfl ?_
            repeat (first | refine thenA_normal ?_ | refine awp_ret ?_ | refine thenA_ret ?_ | refine blockA_ret ?_ | refine r_done ?_ | (refine r_id ?_; first | refine r_ev tab_ok rfl rfl rfl rfl (by first | exact trivial | exact ⟨by omega, by omega⟩ | omega | exact ⟨by omega, by omega, by omega, by omega⟩ | exact Nat.le_of_ble_eq_true rfl) rfl ?_ | refine r_st tab_ok rfl rfl rfl rfl ?_))
            all_goals exact ret2ct tab_ok (by first | exact .inl rfl | exact .inr rfl) rfl rfl rfl rfl rfl rfl rfl (Sub.refl _) (Sub.refl _)
          | false =>
            rw [if_neg Bool.false_ne_true]
            repeat (first | refine awp_seq ?_ | refine thenA_normal ?_ | refine a_region ?_ | refine awp_ret ?_ | refine awp_skip ?_ | refine r_done ?_ | (refine r_id ?_; first | refine r_ev tab_ok rfl rfl rfl rfl (by first | exact trivial | exact ⟨by omega, by omega⟩ | omega | exact ⟨by omega, by omega, by omega, by omega⟩ | exact Nat.le_of_ble_eq_true rfl) rfl ?_ | refine r_st tab_ok rfl rfl rfl rfl ?_ | refine r_build tab_ok rfl rfl rfl rfl rfl rfl ?_) | refine awp_cond_f rfl ?_)
            all_goals exact ret2ct tab_ok (by first | exact .inl rfl | exact .inr rfl) rfl rfl rfl rfl rfl rfl rfl (Sub.refl _) (Sub.refl _)
      | [m], hm, hl, hz, hlm =>
        rw [show itemF1 n [m] = (⟨2, (idnF m).1, ⟨#[]⟩, ⟨#[]⟩⟩, (idnF m).2) by rw [itemF1, ha, if_pos rfl]]
        repeat (first | refine awp_seq ?_ | refine thenA_normal ?_ | refine a_region ?_ | refine r_done ?_ | (refine r_id ?_; first | refine r_ev tab_ok rfl rfl rfl rfl (by first | exact trivial | exact ⟨by omega, by omega⟩ | omega | exact ⟨by omega, by omega, by omega, by omega⟩ | exact Nat.le_of_ble_eq_true rfl) rfl ?_ | refine r_idxd tab_ok rfl rfl rfl rfl rfl rfl rfl (by decide) rfl rfl rfl ?_ | refine r_len_cnd tab_ok rfl rfl rfl rfl rfl rfl (by first | exact fun _ => rfl | exact cs1) rfl rfl rfl ?_ | refine r_ev_cnd tab_ok rfl rfl rfl rfl rfl rfl (by first | exact fun _ => rfl | exact cs1 | exact cs2 | exact cs3) (by first | exact fun _ => trivial | (intro h; simp at h; first | exact ⟨by omega, by omega⟩ | omega)) rfl ?_ | refine r_and rfl rfl rfl rfl rfl rfl rfl rfl ?_) | refine awp_cond_t rfl ?_)
        refine r_call (pident_ok m (hm m (by simp))) call80 rfl rfl ⟨Sub.refl _, trivial⟩ rfl rfl rfl rfl ?_
        repeat (first | refine awp_seq ?_ | refine thenA_normal ?_ | refine a_region ?_ | refine awp_ret ?_ | refine thenA_ret ?_ | refine blockA_ret ?_ | refine r_done ?_ | (refine r_id ?_; first | refine r_ev tab_ok rfl rfl rfl rfl (by first | exact trivial | exact ⟨by omega, by omega⟩ | omega | exact ⟨by omega, by omega, by omega, by omega⟩ | exact Nat.le_of_ble_eq_true rfl) rfl ?_ | refine r_st tab_ok rfl rfl rfl rfl ?_ | refine r_build tab_ok rfl rfl rfl rfl rfl rfl ?_))
        all_goals exact ret2ct tab_ok (by first | exact .inl rfl | exact .inr rfl) rfl rfl rfl rfl rfl rfl rfl (Sub.refl _) (Sub.refl _)
end Go.Proofs.YtllmagfmbglefaaDoor

/- prop.content, marks; walked. -/
namespace Go.Proofs.YtllmagfmbglefaaDoor
open Go Go.RowKit
set_option maxRecDepth 20000

/-- A value's box with one field that is a row of its own. -/
def vCo (nm : ByteArray) : AB := .box 30 [.val (.string nm), .val (.int .i64 0), .val (.string ⟨#[]⟩), .val (.string ⟨#[]⟩), .val (.string ⟨#[]⟩), .row 1 0, .val (.bool false), .val (.bool false), .val (.slice none 0 0), .val (.bool false), .val (.slice none 0 0), .val (.slice none 0 0), .val (.slice none 0 0)]
def vQu (nm : ByteArray) : AB := .box 30 [.val (.string nm), .val (.int .i64 0), .val (.string ⟨#[]⟩), .val (.string ⟨#[]⟩), .val (.string ⟨#[]⟩), .val (.slice none 0 0), .val (.bool false), .val (.bool false), .row 1 0, .val (.bool false), .val (.slice none 0 0), .val (.slice none 0 0), .val (.slice none 0 0)]
theorem nsz_kids (n : Nd) : nsz n = nszs n.kids + 1 := by
  obtain ⟨t, k⟩ := n
  rw [nsz]
  show _ = nszs k + 1
  omega
structure CoS (l : List Nd) where
  i : Nat
  acc : List It
  hi : i ≤ l.length
  ha : acc.length ≤ i
  eq : conF1 (l.drop i) acc = conF1 l []
set_option maxHeartbeats 4000000 in
theorem content_ok (nm : ByteArray) (l : List Nd) (hs : nszs l < 1099511627776) (ht : ∀ n ∈ l, n.tok.text.size ≤ 1099511627776) (hk : ∀ n ∈ l, ∀ m ∈ n.kids, m.tok.text.size ≤ 1099511627776) : MCalls Tryd.prog 81 [vZ nm] [.ptr 0 2, .sl 7 (l.map nF)] [vR nm (conF l)] (.val (.bool (conF l).isSome)) := by
  have hll := nszs_len l
  have hlm : (l.map nF).length = l.length := List.length_map _
  refine m_startF Tryd.func81 Tryd.ntmps81 rfl rfl rfl fun S w β => ?_
  repeat (first | refine awp_seq ?_ | refine a_region ?_ | refine r_done ?_ | (refine r_id ?_; first | refine r_ev tab_ok rfl rfl rfl rfl (by first | exact trivial | exact ⟨by omega, by omega⟩ | omega | exact ⟨by omega, by omega, by omega, by omega⟩ | exact Nat.le_of_ble_eq_true rfl) rfl ?_))
  refine r_call (alone_ok l (by omega) ht) call54 rfl rfl ⟨Sub.refl _, trivial⟩ rfl rfl rfl rfl ?_
  repeat (first | refine awp_seq ?_ | refine thenA_normal ?_ | refine awp_block ?_ | refine a_region ?_ | refine r_done ?_ | (refine r_id ?_; first | refine r_ev tab_ok rfl rfl rfl rfl (by first | exact trivial | exact ⟨by omega, by omega⟩ | omega | exact ⟨by omega, by omega, by omega, by omega⟩ | exact Nat.le_of_ble_eq_true rfl) rfl ?_))
  refine awp_cond_p rfl (fun hc => ?_) (fun hc => ?_)
  · rw [show conF l = some { zS with normal := true } from if_pos hc]
    repeat (first | refine awp_seq ?_ | refine thenA_normal ?_ | refine a_region ?_ | refine awp_ret ?_ | refine thenA_ret ?_ | refine blockA_ret ?_ | refine r_done ?_ | (refine r_id ?_; first | refine r_ev tab_ok rfl rfl rfl rfl (by first | exact trivial | exact ⟨by omega, by omega⟩ | omega | exact ⟨by omega, by omega, by omega, by omega⟩ | exact Nat.le_of_ble_eq_true rfl) rfl ?_ | refine r_st tab_ok rfl rfl rfl rfl ?_ | refine r_nilck rfl rfl rfl rfl rfl rfl rfl ?_))
    exact retF1 [vS nm { zS with normal := true }] [(4, .val (.bool true))] (fits_convM (by repeat' first | exact trivial | exact rfl | (rw [List.map_append]; first | done | rfl) | exact c_sub rfl (Sub.refl _) rfl | exact c_nil rfl rfl | exact c_thaw rfl rfl rfl | exact c_row rfl rfl rfl | exact c_row rfl rfl (by rw [List.map_append]; first | done | rfl) | exact c_ptr rfl rfl rfl rfl | exact Or.inl ⟨c_sub rfl (Sub.refl _) rfl, c_ptr rfl rfl rfl rfl⟩ | exact c_alt rfl rfl rfl rfl | exact c_ro rfl rfl | exact c_eo rfl rfl | exact c_sub rfl (Sub.altl _ _) rfl | exact c_sub rfl (Sub.nil _) rfl | refine ⟨_, _, rfl, ?_, ?_⟩ | apply And.intro) (by repeat' first | exact trivial | exact rfl | (rw [List.map_append]; first | done | rfl) | exact c_sub rfl (Sub.refl _) rfl | exact c_nil rfl rfl | exact c_thaw rfl rfl rfl | exact c_row rfl rfl rfl | exact c_row rfl rfl (by rw [List.map_append]; first | done | rfl) | exact c_ptr rfl rfl rfl rfl | exact Or.inl ⟨c_sub rfl (Sub.refl _) rfl, c_ptr rfl rfl rfl rfl⟩ | exact c_alt rfl rfl rfl rfl | exact c_ro rfl rfl | exact c_eo rfl rfl | exact c_sub rfl (Sub.altl _ _) rfl | exact c_sub rfl (Sub.nil _) rfl | refine ⟨_, _, rfl, ?_, ?_⟩ | apply And.intro) ⟨trivial, trivial⟩) (by first | exact .inl rfl | exact .inr rfl) rfl rfl rfl rfl rfl (Sub.refl _)
  repeat (first | refine awp_seq ?_ | refine thenA_normal ?_ | refine a_region ?_ | refine r_done ?_ | (refine r_id ?_; first | refine r_ev tab_ok rfl rfl rfl rfl (by first | exact trivial | exact ⟨by omega, by omega⟩ | omega | exact ⟨by omega, by omega, by omega, by omega⟩ | exact Nat.le_of_ble_eq_true rfl) rfl ?_))
  refine awp_cond_p rfl (fun hc2 => ?_) (fun hc2 => ?_)
  · rw [show conF l = some { zS with nothing := true } from (if_neg hc).trans (if_pos hc2)]
    repeat (first | refine awp_seq ?_ | refine thenA_normal ?_ | refine a_region ?_ | refine awp_ret ?_ | refine thenA_ret ?_ | refine blockA_ret ?_ | refine r_done ?_ | (refine r_id ?_; first | refine r_ev tab_ok rfl rfl rfl rfl (by first | exact trivial | exact ⟨by omega, by omega⟩ | omega | exact ⟨by omega, by omega, by omega, by omega⟩ | exact Nat.le_of_ble_eq_true rfl) rfl ?_ | refine r_st tab_ok rfl rfl rfl rfl ?_ | refine r_nilck rfl rfl rfl rfl rfl rfl rfl ?_))
    exact retF1 [vS nm { zS with nothing := true }] [(4, .val (.bool true))] (fits_convM (by repeat' first | exact trivial | exact rfl | (rw [List.map_append]; first | done | rfl) | exact c_sub rfl (Sub.refl _) rfl | exact c_nil rfl rfl | exact c_thaw rfl rfl rfl | exact c_row rfl rfl rfl | exact c_row rfl rfl (by rw [List.map_append]; first | done | rfl) | exact c_ptr rfl rfl rfl rfl | exact Or.inl ⟨c_sub rfl (Sub.refl _) rfl, c_ptr rfl rfl rfl rfl⟩ | exact c_alt rfl rfl rfl rfl | exact c_ro rfl rfl | exact c_eo rfl rfl | exact c_sub rfl (Sub.altl _ _) rfl | exact c_sub rfl (Sub.nil _) rfl | refine ⟨_, _, rfl, ?_, ?_⟩ | apply And.intro) (by repeat' first | exact trivial | exact rfl | (rw [List.map_append]; first | done | rfl) | exact c_sub rfl (Sub.refl _) rfl | exact c_nil rfl rfl | exact c_thaw rfl rfl rfl | exact c_row rfl rfl rfl | exact c_row rfl rfl (by rw [List.map_append]; first | done | rfl) | exact c_ptr rfl rfl rfl rfl | exact Or.inl ⟨c_sub rfl (Sub.refl _) rfl, c_ptr rfl rfl rfl rfl⟩ | exact c_alt rfl rfl rfl rfl | exact c_ro rfl rfl | exact c_eo rfl rfl | exact c_sub rfl (Sub.altl _ _) rfl | exact c_sub rfl (Sub.nil _) rfl | refine ⟨_, _, rfl, ?_, ?_⟩ | apply And.intro) ⟨trivial, trivial⟩) (by first | exact .inl rfl | exact .inr rfl) rfl rfl rfl rfl rfl (Sub.refl _)
  rw [show conF l = match conF1 l [] with | none => none | some a => if l.length ≤ 32 then some { zS with cont := a } else none from (if_neg hc).trans (if_neg hc2)]
  repeat (first | refine awp_seq ?_ | refine thenA_normal ?_ | refine awp_block ?_ | refine a_region ?_ | refine awp_skip ?_ | refine r_done ?_ | (refine r_id ?_; first | refine r_len tab_ok rfl rfl rfl rfl rfl rfl rfl ?_ | refine r_ev tab_ok rfl rfl rfl rfl (by first | exact trivial | exact ⟨by omega, by omega⟩ | omega | exact ⟨by omega, by omega, by omega, by omega⟩ | exact Nat.le_of_ble_eq_true rfl) rfl ?_))
  refine a_loop (σ := CoS l) (fun x => [vCo nm, .row 0 68 4 (x.acc.map itD)]) (fun x => [(0, .ptr 0 2), (1, .sl 7 (l.map nF)), (21, .sl 7 (l.map nF)), (22, .val (.int .i64 l.length)), (23, .val (.int .i64 x.i))]) (fun x => l.length - x.i) ⟨0, [], Nat.zero_le _, Nat.le_refl _, rfl⟩ (fits_convM (by repeat' first | exact trivial | exact rfl | (rw [List.map_append]; first | done | rfl) | exact c_sub rfl (Sub.refl _) rfl | exact c_nil rfl rfl | exact c_thaw rfl rfl rfl | exact c_row rfl rfl rfl | exact c_row rfl rfl (by rw [List.map_append]; first | done | rfl) | exact c_ptr rfl rfl rfl rfl | exact Or.inl ⟨c_sub rfl (Sub.refl _) rfl, c_ptr rfl rfl rfl rfl⟩ | exact c_alt rfl rfl rfl rfl | exact c_ro rfl rfl | exact c_eo rfl rfl | exact c_sub rfl (Sub.altl _ _) rfl | exact c_sub rfl (Sub.nil _) rfl | refine ⟨_, _, rfl, ?_, ?_⟩ | apply And.intro) (by repeat' first | exact trivial | exact rfl | (rw [List.map_append]; first | done | rfl) | exact c_sub rfl (Sub.refl _) rfl | exact c_nil rfl rfl | exact c_thaw rfl rfl rfl | exact c_row rfl rfl rfl | exact c_row rfl rfl (by rw [List.map_append]; first | done | rfl) | exact c_ptr rfl rfl rfl rfl | exact Or.inl ⟨c_sub rfl (Sub.refl _) rfl, c_ptr rfl rfl rfl rfl⟩ | exact c_alt rfl rfl rfl rfl | exact c_ro rfl rfl | exact c_eo rfl rfl | exact c_sub rfl (Sub.altl _ _) rfl | exact c_sub rfl (Sub.nil _) rfl | refine ⟨_, _, rfl, ?_, ?_⟩ | apply And.intro) ⟨trivial, trivial⟩) ?_
  rintro ⟨i, acc, hi, ha, heq⟩
  dsimp only
  rw [← heq]
  have hal : (acc.map itD).length = acc.length := List.length_map _
  repeat (first | refine awp_seq ?_ | refine a_region ?_ | refine r_done ?_ | (refine r_id ?_; first | refine r_ev tab_ok rfl rfl rfl rfl (by first | exact trivial | exact ⟨by omega, by omega⟩ | omega | exact ⟨by omega, by omega, by omega, by omega⟩ | exact Nat.le_of_ble_eq_true rfl) rfl ?_))
  refine awp_cond_p rfl (fun hlt => ?_) (fun hge => ?_)
  · have hi' : i < l.length := by omega
    have hin : ((i : Nat) : Int).toNat < l.length := by simp only [Int.toNat_natCast]; exact hi'
    have hmem : l[i] ∈ l := List.getElem_mem hi'
    have hit := item_ok l[i] (by have := nszs_at hi'; rw [nsz_kids]; omega) (ht _ hmem) (hk _ hmem)
    have hdr : l.drop i = l[i] :: l.drop (i + 1) := List.drop_eq_getElem_cons hi'
    rw [hdr] at heq ⊢
    repeat (first | refine awp_seq ?_ | refine awp_block ?_ | refine a_region ?_ | refine awp_skip ?_ | refine r_done ?_ | (refine r_id ?_; first | refine r_ev tab_ok rfl rfl rfl rfl (by first | exact trivial | exact ⟨by omega, by omega⟩ | omega | exact ⟨by omega, by omega, by omega, by omega⟩ | exact Nat.le_of_ble_eq_true rfl) rfl ?_ | refine r_ld tab_ok rfl rfl rfl rfl rfl ?_ | refine r_idx tab_ok rfl rfl rfl rfl rfl rfl rfl (by first | exact ⟨by omega, by omega⟩ | (simp; omega)) rfl rfl ?_ | refine r_wr tab_ok rfl rfl rfl rfl rfl ?_ | refine r_st tab_ok rfl rfl rfl rfl ?_))
    simp only [Int.toNat_natCast]
    refine r_call hit call112 rfl rfl ⟨Sub.refl _, trivial⟩ rfl rfl rfl rfl ?_
    repeat (first | refine awp_seq ?_ | refine thenA_normal ?_ | refine a_region ?_ | refine r_done ?_ | (refine r_id ?_; first | refine r_ev tab_ok rfl rfl rfl rfl (by first | exact trivial | exact ⟨by omega, by omega⟩ | omega | exact ⟨by omega, by omega, by omega, by omega⟩ | exact Nat.le_of_ble_eq_true rfl) rfl ?_ | refine r_wr tab_ok rfl rfl rfl rfl rfl ?_ | refine r_st tab_ok rfl rfl rfl rfl ?_))
    refine awp_cond rfl (fun hno => ?_) (fun hyes => ?_)
    · have e : (itemF l[i]).2 = false := by simpa using hno
      rw [show conF1 (l[i] :: l.drop (i + 1)) acc = none by rw [conF1, e, if_neg Bool.false_ne_true]]
      repeat (first | refine awp_seq ?_ | refine thenA_normal ?_ | refine a_region ?_ | refine awp_ret ?_ | refine thenA_ret ?_ | refine blockA_ret ?_ | refine r_done ?_ | (refine r_id ?_; first | refine r_ev tab_ok rfl rfl rfl rfl (by first | exact trivial | exact ⟨by omega, by omega⟩ | omega | exact ⟨by omega, by omega, by omega, by omega⟩ | exact Nat.le_of_ble_eq_true rfl) rfl ?_))
      exact retF1 [vX, .gone, .gone, .gone] [(4, .val (.bool false))] (fits_convM (by repeat' first | exact trivial | exact rfl | (rw [List.map_append]; first | done | rfl) | exact c_sub rfl (Sub.refl _) rfl | exact c_nil rfl rfl | exact c_thaw rfl rfl rfl | exact c_row rfl rfl rfl | exact c_row rfl rfl (by rw [List.map_append]; first | done | rfl) | exact c_ptr rfl rfl rfl rfl | exact Or.inl ⟨c_sub rfl (Sub.refl _) rfl, c_ptr rfl rfl rfl rfl⟩ | exact c_alt rfl rfl rfl rfl | exact c_ro rfl rfl | exact c_eo rfl rfl | exact c_sub rfl (Sub.altl _ _) rfl | exact c_sub rfl (Sub.nil _) rfl | refine ⟨_, _, rfl, ?_, ?_⟩ | apply And.intro) (by repeat' first | exact trivial | exact rfl | (rw [List.map_append]; first | done | rfl) | exact c_sub rfl (Sub.refl _) rfl | exact c_nil rfl rfl | exact c_thaw rfl rfl rfl | exact c_row rfl rfl rfl | exact c_row rfl rfl (by rw [List.map_append]; first | done | rfl) | exact c_ptr rfl rfl rfl rfl | exact Or.inl ⟨c_sub rfl (Sub.refl _) rfl, c_ptr rfl rfl rfl rfl⟩ | exact c_alt rfl rfl rfl rfl | exact c_ro rfl rfl | exact c_eo rfl rfl | exact c_sub rfl (Sub.altl _ _) rfl | exact c_sub rfl (Sub.nil _) rfl | refine ⟨_, _, rfl, ?_, ?_⟩ | apply And.intro) ⟨trivial, trivial⟩) (by first | exact .inl rfl | exact .inr rfl) rfl rfl rfl rfl rfl (Sub.refl _)
    · have e : (itemF l[i]).2 = true := by simpa using hyes
      repeat (first | refine thenA_normal ?_ | refine awp_skip ?_)
      refine a_draw mixed_ok [0,0,0,0,1,1,1,2,0,0,2] (by kernel_rfl) ?_
      repeat (first | refine thenA_normal ?_ | refine a_region ?_ | refine r_done ?_ | refine r_done' ?_ | (refine r_id ?_; first | refine r_ev tab_ok rfl rfl rfl rfl (by first | exact trivial | exact ⟨by omega, by omega⟩ | omega | exact ⟨by omega, by omega, by omega, by omega⟩ | exact Nat.le_of_ble_eq_true rfl) rfl ?_ | refine r_ld tab_ok rfl rfl rfl rfl rfl ?_ | refine r_st tab_ok rfl rfl rfl rfl ?_ | refine r_built tab_ok rfl rfl rfl rfl rfl rfl rfl rfl rfl ?_ | refine r_nilck rfl rfl rfl rfl rfl rfl rfl ?_ | refine r_append tab_ok rfl rfl rfl rfl rfl rfl rfl rfl rfl (by first | omega | (simp; omega)) rfl ?_))
      refine ⟨⟨i + 1, acc ++ [(itemF l[i]).1], hi', by simp; omega, by rw [← heq, conF1, e, if_pos rfl]⟩, by dsimp only; omega, ?_⟩
      dsimp only
      rw [show (acc ++ [((itemF l[i]).1 : It)]).map itD = acc.map itD ++ [itD (itemF l[i]).1] from List.map_append]
      exact fits_trans (s' := ⟨[vCo nm, .row 0 68 4 (acc.map itD ++ [itD (itemF l[i]).1]), .gone, .gone], [(0, .ptr 0 2), (1, .sl 7 (l.map nF)), (21, .sl 7 (l.map nF)), (22, .val (.int .i64 l.length)), (23, .val (.int .i64 (i + 1 : Nat)))]⟩) (fits_convM (by repeat' first | exact trivial | exact rfl | (rw [List.map_append]; first | done | rfl) | exact c_sub rfl (Sub.refl _) rfl | exact c_nil rfl rfl | exact c_thaw rfl rfl rfl | exact c_row rfl rfl rfl | exact c_row rfl rfl (by rw [List.map_append]; first | done | rfl) | exact c_ptr rfl rfl rfl rfl | exact Or.inl ⟨c_sub rfl (Sub.refl _) rfl, c_ptr rfl rfl rfl rfl⟩ | exact c_alt rfl rfl rfl rfl | exact c_ro rfl rfl | exact c_eo rfl rfl | exact c_sub rfl (Sub.altl _ _) rfl | exact c_sub rfl (Sub.nil _) rfl | refine ⟨_, _, rfl, ?_, ?_⟩ | apply And.intro) (by repeat' first | exact trivial | exact rfl | (rw [List.map_append]; first | done | rfl) | exact c_sub rfl (Sub.refl _) rfl | exact c_nil rfl rfl | exact c_thaw rfl rfl rfl | exact c_row rfl rfl rfl | exact c_row rfl rfl (by rw [List.map_append]; first | done | rfl) | exact c_ptr rfl rfl rfl rfl | exact Or.inl ⟨c_sub rfl (Sub.refl _) rfl, c_ptr rfl rfl rfl rfl⟩ | exact c_alt rfl rfl rfl rfl | exact c_ro rfl rfl | exact c_eo rfl rfl | exact c_sub rfl (Sub.altl _ _) rfl | exact c_sub rfl (Sub.nil _) rfl | refine ⟨_, _, rfl, ?_, ?_⟩ | apply And.intro) ⟨trivial, trivial⟩) (fits_drop 2 rfl rfl (by repeat' first | exact trivial | exact Sub.refl _ | exact rfl | apply And.intro))
  · have : i = l.length := by omega
    subst this
    rw [show conF1 (l.drop l.length) acc = some acc by rw [List.drop_length, conF1]]
    repeat (first | refine awp_seq ?_ | refine thenA_normal ?_ | refine a_region ?_ | refine awp_ret ?_ | refine awp_exit ?_ | refine r_done ?_ | (refine r_id ?_; first | refine r_len tab_ok rfl rfl rfl rfl rfl rfl rfl ?_ | refine r_ev tab_ok rfl rfl rfl rfl (by first | exact trivial | exact ⟨by omega, by omega⟩ | omega | exact ⟨by omega, by omega, by omega, by omega⟩ | exact Nat.le_of_ble_eq_true rfl) rfl ?_))
    by_cases h32 : l.length ≤ 32
    · dsimp only
      rw [if_pos h32]
      exact retF1 [vS nm { zS with cont := acc }, .gone] [(4, .val (.bool true))] (fits_convM (by repeat' first | exact trivial | exact rfl | (rw [List.map_append]; first | done | rfl) | exact c_sub rfl (Sub.refl _) rfl | exact c_nil rfl rfl | exact c_thaw rfl rfl rfl | exact c_row rfl rfl rfl | exact c_row rfl rfl (by rw [List.map_append]; first | done | rfl) | exact c_ptr rfl rfl rfl rfl | exact Or.inl ⟨c_sub rfl (Sub.refl _) rfl, c_ptr rfl rfl rfl rfl⟩ | exact c_alt rfl rfl rfl rfl | exact c_ro rfl rfl | exact c_eo rfl rfl | exact c_sub rfl (Sub.altl _ _) rfl | exact c_sub rfl (Sub.nil _) rfl | refine ⟨_, _, rfl, ?_, ?_⟩ | apply And.intro) ⟨c_sub rfl (Sub.of_eq (congrArg (fun b => AV.val (.bool b)) (decide_eq_true (by omega)))) rfl, trivial⟩ ⟨trivial, trivial⟩) (by first | exact .inl rfl | exact .inr rfl) rfl rfl rfl rfl rfl (Sub.refl _)
    · dsimp only
      rw [if_neg h32]
      exact retF1 [vX, .gone] [(4, .val (.bool false))] (fits_convM (by repeat' first | exact trivial | exact rfl | (rw [List.map_append]; first | done | rfl) | exact c_sub rfl (Sub.refl _) rfl | exact c_nil rfl rfl | exact c_thaw rfl rfl rfl | exact c_row rfl rfl rfl | exact c_row rfl rfl (by rw [List.map_append]; first | done | rfl) | exact c_ptr rfl rfl rfl rfl | exact Or.inl ⟨c_sub rfl (Sub.refl _) rfl, c_ptr rfl rfl rfl rfl⟩ | exact c_alt rfl rfl rfl rfl | exact c_ro rfl rfl | exact c_eo rfl rfl | exact c_sub rfl (Sub.altl _ _) rfl | exact c_sub rfl (Sub.nil _) rfl | refine ⟨_, _, rfl, ?_, ?_⟩ | apply And.intro) ⟨c_sub rfl (Sub.of_eq (congrArg (fun b => AV.val (.bool b)) (decide_eq_false (by omega)))) rfl, trivial⟩ ⟨trivial, trivial⟩) (by first | exact .inl rfl | exact .inr rfl) rfl rfl rfl rfl rfl (Sub.refl _)
structure QuS (l : List Nd) where
  i : Nat
  acc : List ByteArray
  hi : i ≤ l.length
  ha : acc.length ≤ i
  eq : marF1 (l.drop i) acc = marF1 l []
set_option maxHeartbeats 4000000 in
theorem marks_ok (nm : ByteArray) (l : List Nd) (hs : nszs l < 1099511627776) (ht : ∀ n ∈ l, n.tok.text.size ≤ 1099511627776) : MCalls Tryd.prog 84 [vZ nm] [.ptr 0 2, .sl 7 (l.map nF)] [vR nm (marF l)] (.val (.bool (marF l).isSome)) := by
  have hll := nszs_len l
  have hlm : (l.map nF).length = l.length := List.length_map _
  refine m_startF Tryd.func84 Tryd.ntmps84 rfl rfl rfl fun S w β => ?_
  repeat (first | refine awp_seq ?_ | refine a_region ?_ | refine r_done ?_ | (refine r_id ?_; first | refine r_ev tab_ok rfl rfl rfl rfl (by first | exact trivial | exact ⟨by omega, by omega⟩ | omega | exact ⟨by omega, by omega, by omega, by omega⟩ | exact Nat.le_of_ble_eq_true rfl) rfl ?_))
  refine r_call (alone_ok l (by omega) ht) call54 rfl rfl ⟨Sub.refl _, trivial⟩ rfl rfl rfl rfl ?_
  repeat (first | refine awp_seq ?_ | refine thenA_normal ?_ | refine awp_block ?_ | refine a_region ?_ | refine r_done ?_ | (refine r_id ?_; first | refine r_ev tab_ok rfl rfl rfl rfl (by first | exact trivial | exact ⟨by omega, by omega⟩ | omega | exact ⟨by omega, by omega, by omega, by omega⟩ | exact Nat.le_of_ble_eq_true rfl) rfl ?_))
  refine awp_cond_p rfl (fun hc => ?_) (fun hc => ?_)
  · rw [show marF l = some zS from if_pos hc]
    repeat (first | refine awp_seq ?_ | refine thenA_normal ?_ | refine a_region ?_ | refine awp_ret ?_ | refine thenA_ret ?_ | refine blockA_ret ?_ | refine r_done ?_ | (refine r_id ?_; first | refine r_ev tab_ok rfl rfl rfl rfl (by first | exact trivial | exact ⟨by omega, by omega⟩ | omega | exact ⟨by omega, by omega, by omega, by omega⟩ | exact Nat.le_of_ble_eq_true rfl) rfl ?_))
    exact retF1 [vS nm zS] [(4, .val (.bool true))] (fits_convM (by repeat' first | exact trivial | exact rfl | (rw [List.map_append]; first | done | rfl) | exact c_sub rfl (Sub.refl _) rfl | exact c_nil rfl rfl | exact c_thaw rfl rfl rfl | exact c_row rfl rfl rfl | exact c_row rfl rfl (by rw [List.map_append]; first | done | rfl) | exact c_ptr rfl rfl rfl rfl | exact Or.inl ⟨c_sub rfl (Sub.refl _) rfl, c_ptr rfl rfl rfl rfl⟩ | exact c_alt rfl rfl rfl rfl | exact c_ro rfl rfl | exact c_eo rfl rfl | exact c_sub rfl (Sub.altl _ _) rfl | exact c_sub rfl (Sub.nil _) rfl | refine ⟨_, _, rfl, ?_, ?_⟩ | apply And.intro) (by repeat' first | exact trivial | exact rfl | (rw [List.map_append]; first | done | rfl) | exact c_sub rfl (Sub.refl _) rfl | exact c_nil rfl rfl | exact c_thaw rfl rfl rfl | exact c_row rfl rfl rfl | exact c_row rfl rfl (by rw [List.map_append]; first | done | rfl) | exact c_ptr rfl rfl rfl rfl | exact Or.inl ⟨c_sub rfl (Sub.refl _) rfl, c_ptr rfl rfl rfl rfl⟩ | exact c_alt rfl rfl rfl rfl | exact c_ro rfl rfl | exact c_eo rfl rfl | exact c_sub rfl (Sub.altl _ _) rfl | exact c_sub rfl (Sub.nil _) rfl | refine ⟨_, _, rfl, ?_, ?_⟩ | apply And.intro) ⟨trivial, trivial⟩) (by first | exact .inl rfl | exact .inr rfl) rfl rfl rfl rfl rfl (Sub.refl _)
  repeat (first | refine awp_seq ?_ | refine thenA_normal ?_ | refine a_region ?_ | refine r_done ?_ | (refine r_id ?_; first | refine r_ev tab_ok rfl rfl rfl rfl (by first | exact trivial | exact ⟨by omega, by omega⟩ | omega | exact ⟨by omega, by omega, by omega, by omega⟩ | exact Nat.le_of_ble_eq_true rfl) rfl ?_))
  refine awp_cond_p rfl (fun hc2 => ?_) (fun hc2 => ?_)
  · rw [show marF l = some { zS with auto := true } from (if_neg hc).trans (if_pos hc2)]
    repeat (first | refine awp_seq ?_ | refine thenA_normal ?_ | refine a_region ?_ | refine awp_ret ?_ | refine thenA_ret ?_ | refine blockA_ret ?_ | refine r_done ?_ | (refine r_id ?_; first | refine r_ev tab_ok rfl rfl rfl rfl (by first | exact trivial | exact ⟨by omega, by omega⟩ | omega | exact ⟨by omega, by omega, by omega, by omega⟩ | exact Nat.le_of_ble_eq_true rfl) rfl ?_ | refine r_st tab_ok rfl rfl rfl rfl ?_ | refine r_nilck rfl rfl rfl rfl rfl rfl rfl ?_))
    exact retF1 [vS nm { zS with auto := true }] [(4, .val (.bool true))] (fits_convM (by repeat' first | exact trivial | exact rfl | (rw [List.map_append]; first | done | rfl) | exact c_sub rfl (Sub.refl _) rfl | exact c_nil rfl rfl | exact c_thaw rfl rfl rfl | exact c_row rfl rfl rfl | exact c_row rfl rfl (by rw [List.map_append]; first | done | rfl) | exact c_ptr rfl rfl rfl rfl | exact Or.inl ⟨c_sub rfl (Sub.refl _) rfl, c_ptr rfl rfl rfl rfl⟩ | exact c_alt rfl rfl rfl rfl | exact c_ro rfl rfl | exact c_eo rfl rfl | exact c_sub rfl (Sub.altl _ _) rfl | exact c_sub rfl (Sub.nil _) rfl | refine ⟨_, _, rfl, ?_, ?_⟩ | apply And.intro) (by repeat' first | exact trivial | exact rfl | (rw [List.map_append]; first | done | rfl) | exact c_sub rfl (Sub.refl _) rfl | exact c_nil rfl rfl | exact c_thaw rfl rfl rfl | exact c_row rfl rfl rfl | exact c_row rfl rfl (by rw [List.map_append]; first | done | rfl) | exact c_ptr rfl rfl rfl rfl | exact Or.inl ⟨c_sub rfl (Sub.refl _) rfl, c_ptr rfl rfl rfl rfl⟩ | exact c_alt rfl rfl rfl rfl | exact c_ro rfl rfl | exact c_eo rfl rfl | exact c_sub rfl (Sub.altl _ _) rfl | exact c_sub rfl (Sub.nil _) rfl | refine ⟨_, _, rfl, ?_, ?_⟩ | apply And.intro) ⟨trivial, trivial⟩) (by first | exact .inl rfl | exact .inr rfl) rfl rfl rfl rfl rfl (Sub.refl _)
  rw [show marF l = match marF1 l [] with | none => none | some a => if l.length % 2 = 0 ∧ l.length ≤ 32 then some { zS with quotes := a } else none from (if_neg hc).trans (if_neg hc2)]
  repeat (first | refine awp_seq ?_ | refine thenA_normal ?_ | refine awp_block ?_ | refine a_region ?_ | refine awp_skip ?_ | refine r_done ?_ | (refine r_id ?_; first | refine r_len tab_ok rfl rfl rfl rfl rfl rfl rfl ?_ | refine r_ev tab_ok rfl rfl rfl rfl (by first | exact trivial | exact ⟨by omega, by omega⟩ | omega | exact ⟨by omega, by omega, by omega, by omega⟩ | exact Nat.le_of_ble_eq_true rfl) rfl ?_))
  refine a_loop (σ := QuS l) (fun x => [vQu nm, .row 0 9 1 (x.acc.map sF)]) (fun x => [(0, .ptr 0 2), (1, .sl 7 (l.map nF)), (16, .sl 7 (l.map nF)), (17, .val (.int .i64 l.length)), (18, .val (.int .i64 x.i))]) (fun x => l.length - x.i) ⟨0, [], Nat.zero_le _, Nat.le_refl _, rfl⟩ (fits_convM (by repeat' first | exact trivial | exact rfl | (rw [List.map_append]; first | done | rfl) | exact c_sub rfl (Sub.refl _) rfl | exact c_nil rfl rfl | exact c_thaw rfl rfl rfl | exact c_row rfl rfl rfl | exact c_row rfl rfl (by rw [List.map_append]; first | done | rfl) | exact c_ptr rfl rfl rfl rfl | exact Or.inl ⟨c_sub rfl (Sub.refl _) rfl, c_ptr rfl rfl rfl rfl⟩ | exact c_alt rfl rfl rfl rfl | exact c_ro rfl rfl | exact c_eo rfl rfl | exact c_sub rfl (Sub.altl _ _) rfl | exact c_sub rfl (Sub.nil _) rfl | refine ⟨_, _, rfl, ?_, ?_⟩ | apply And.intro) (by repeat' first | exact trivial | exact rfl | (rw [List.map_append]; first | done | rfl) | exact c_sub rfl (Sub.refl _) rfl | exact c_nil rfl rfl | exact c_thaw rfl rfl rfl | exact c_row rfl rfl rfl | exact c_row rfl rfl (by rw [List.map_append]; first | done | rfl) | exact c_ptr rfl rfl rfl rfl | exact Or.inl ⟨c_sub rfl (Sub.refl _) rfl, c_ptr rfl rfl rfl rfl⟩ | exact c_alt rfl rfl rfl rfl | exact c_ro rfl rfl | exact c_eo rfl rfl | exact c_sub rfl (Sub.altl _ _) rfl | exact c_sub rfl (Sub.nil _) rfl | refine ⟨_, _, rfl, ?_, ?_⟩ | apply And.intro) ⟨trivial, trivial⟩) ?_
  rintro ⟨i, acc, hi, ha, heq⟩
  dsimp only
  rw [← heq]
  have hal : (acc.map sF).length = acc.length := List.length_map _
  repeat (first | refine awp_seq ?_ | refine a_region ?_ | refine r_done ?_ | (refine r_id ?_; first | refine r_ev tab_ok rfl rfl rfl rfl (by first | exact trivial | exact ⟨by omega, by omega⟩ | omega | exact ⟨by omega, by omega, by omega, by omega⟩ | exact Nat.le_of_ble_eq_true rfl) rfl ?_))
  refine awp_cond_p rfl (fun hlt => ?_) (fun hge => ?_)
  · have hi' : i < l.length := by omega
    have hin : ((i : Nat) : Int).toNat < l.length := by simp only [Int.toNat_natCast]; exact hi'
    have hdr : l.drop i = l[i] :: l.drop (i + 1) := List.drop_eq_getElem_cons hi'
    rw [hdr] at heq ⊢
    repeat (first | refine awp_seq ?_ | refine thenA_normal ?_ | refine awp_block ?_ | refine a_region ?_ | refine awp_skip ?_ | refine r_done ?_ | (refine r_id ?_; first | refine r_ev tab_ok rfl rfl rfl rfl (by first | exact trivial | exact ⟨by omega, by omega⟩ | omega | exact ⟨by omega, by omega, by omega, by omega⟩ | exact Nat.le_of_ble_eq_true rfl) rfl ?_ | refine r_ld tab_ok rfl rfl rfl rfl rfl ?_ | refine r_idx tab_ok rfl rfl rfl rfl rfl rfl rfl (by first | exact ⟨by omega, by omega⟩ | (simp; omega)) rfl rfl ?_ | refine r_wr tab_ok rfl rfl rfl rfl rfl ?_ | refine r_st tab_ok rfl rfl rfl rfl ?_))
    simp only [Int.toNat_natCast]
    refine awp_cond_n rfl (fun hk => ?_) (fun hk => ?_)
    · rw [show marF1 (l[i] :: l.drop (i + 1)) acc = none by rw [marF1, if_neg hk]]
      repeat (first | refine awp_seq ?_ | refine thenA_normal ?_ | refine a_region ?_ | refine awp_ret ?_ | refine thenA_ret ?_ | refine blockA_ret ?_ | refine r_done ?_ | (refine r_id ?_; first | refine r_ev tab_ok rfl rfl rfl rfl (by first | exact trivial | exact ⟨by omega, by omega⟩ | omega | exact ⟨by omega, by omega, by omega, by omega⟩ | exact Nat.le_of_ble_eq_true rfl) rfl ?_))
      exact retF1 [vX, .gone, .gone] [(4, .val (.bool false))] (fits_convM (by repeat' first | exact trivial | exact rfl | (rw [List.map_append]; first | done | rfl) | exact c_sub rfl (Sub.refl _) rfl | exact c_nil rfl rfl | exact c_thaw rfl rfl rfl | exact c_row rfl rfl rfl | exact c_row rfl rfl (by rw [List.map_append]; first | done | rfl) | exact c_ptr rfl rfl rfl rfl | exact Or.inl ⟨c_sub rfl (Sub.refl _) rfl, c_ptr rfl rfl rfl rfl⟩ | exact c_alt rfl rfl rfl rfl | exact c_ro rfl rfl | exact c_eo rfl rfl | exact c_sub rfl (Sub.altl _ _) rfl | exact c_sub rfl (Sub.nil _) rfl | refine ⟨_, _, rfl, ?_, ?_⟩ | apply And.intro) (by repeat' first | exact trivial | exact rfl | (rw [List.map_append]; first | done | rfl) | exact c_sub rfl (Sub.refl _) rfl | exact c_nil rfl rfl | exact c_thaw rfl rfl rfl | exact c_row rfl rfl rfl | exact c_row rfl rfl (by rw [List.map_append]; first | done | rfl) | exact c_ptr rfl rfl rfl rfl | exact Or.inl ⟨c_sub rfl (Sub.refl _) rfl, c_ptr rfl rfl rfl rfl⟩ | exact c_alt rfl rfl rfl rfl | exact c_ro rfl rfl | exact c_eo rfl rfl | exact c_sub rfl (Sub.altl _ _) rfl | exact c_sub rfl (Sub.nil _) rfl | refine ⟨_, _, rfl, ?_, ?_⟩ | apply And.intro) ⟨trivial, trivial⟩) (by first | exact .inl rfl | exact .inr rfl) rfl rfl rfl rfl rfl (Sub.refl _)
    · repeat (first | refine thenA_normal ?_ | refine awp_skip ?_)
      refine a_draw mixed_ok [0,0,0,0,1,0,0,1,1,2,0,0,2] (by kernel_rfl) ?_
      repeat (first | refine thenA_normal ?_ | refine a_region ?_ | refine r_done ?_ | refine r_done' ?_ | (refine r_id ?_; first | refine r_ev tab_ok rfl rfl rfl rfl (by first | exact trivial | exact ⟨by omega, by omega⟩ | omega | exact ⟨by omega, by omega, by omega, by omega⟩ | exact Nat.le_of_ble_eq_true rfl) rfl ?_ | refine r_ld tab_ok rfl rfl rfl rfl rfl ?_ | refine r_st tab_ok rfl rfl rfl rfl ?_ | refine r_built tab_ok rfl rfl rfl rfl rfl rfl rfl rfl rfl ?_ | refine r_nilck rfl rfl rfl rfl rfl rfl rfl ?_ | refine r_append tab_ok rfl rfl rfl rfl rfl rfl rfl rfl rfl (by first | omega | (simp; omega)) rfl ?_))
      refine ⟨⟨i + 1, acc ++ [l[i].tok.text], hi', by simp; omega, by rw [← heq, marF1, if_pos hk]⟩, by dsimp only; omega, ?_⟩
      dsimp only
      rw [show (acc ++ [(l[i].tok.text : ByteArray)]).map sF = acc.map sF ++ [sF l[i].tok.text] from List.map_append]
      exact fits_trans (s' := ⟨[vQu nm, .row 0 9 1 (acc.map sF ++ [sF l[i].tok.text]), .gone], [(0, .ptr 0 2), (1, .sl 7 (l.map nF)), (16, .sl 7 (l.map nF)), (17, .val (.int .i64 l.length)), (18, .val (.int .i64 (i + 1 : Nat)))]⟩) (fits_convM (by repeat' first | exact trivial | exact rfl | (rw [List.map_append]; first | done | rfl) | exact c_sub rfl (Sub.refl _) rfl | exact c_nil rfl rfl | exact c_thaw rfl rfl rfl | exact c_row rfl rfl rfl | exact c_row rfl rfl (by rw [List.map_append]; first | done | rfl) | exact c_ptr rfl rfl rfl rfl | exact Or.inl ⟨c_sub rfl (Sub.refl _) rfl, c_ptr rfl rfl rfl rfl⟩ | exact c_alt rfl rfl rfl rfl | exact c_ro rfl rfl | exact c_eo rfl rfl | exact c_sub rfl (Sub.altl _ _) rfl | exact c_sub rfl (Sub.nil _) rfl | refine ⟨_, _, rfl, ?_, ?_⟩ | apply And.intro) (by repeat' first | exact trivial | exact rfl | (rw [List.map_append]; first | done | rfl) | exact c_sub rfl (Sub.refl _) rfl | exact c_nil rfl rfl | exact c_thaw rfl rfl rfl | exact c_row rfl rfl rfl | exact c_row rfl rfl (by rw [List.map_append]; first | done | rfl) | exact c_ptr rfl rfl rfl rfl | exact Or.inl ⟨c_sub rfl (Sub.refl _) rfl, c_ptr rfl rfl rfl rfl⟩ | exact c_alt rfl rfl rfl rfl | exact c_ro rfl rfl | exact c_eo rfl rfl | exact c_sub rfl (Sub.altl _ _) rfl | exact c_sub rfl (Sub.nil _) rfl | refine ⟨_, _, rfl, ?_, ?_⟩ | apply And.intro) ⟨trivial, trivial⟩) (fits_drop 2 rfl rfl (by repeat' first | exact trivial | exact Sub.refl _ | exact rfl | apply And.intro))
  · have : i = l.length := by omega
    subst this
    rw [show marF1 (l.drop l.length) acc = some acc by rw [List.drop_length, marF1]]
    by_cases h2 : l.length % 2 = 0
    · by_cases h32 : l.length ≤ 32
      · dsimp only
        rw [if_pos ⟨h2, h32⟩]
        repeat (first | refine awp_seq ?_ | refine thenA_normal ?_ | refine a_region ?_ | refine awp_ret ?_ | refine awp_exit ?_ | refine r_done ?_ | (refine r_id ?_; first | refine r_len tab_ok rfl rfl rfl rfl rfl rfl rfl ?_ | refine r_ev tab_ok rfl rfl rfl rfl (by first | exact trivial | exact ⟨by omega, by omega⟩ | omega | exact ⟨by omega, by omega, by omega, by omega⟩ | exact Nat.le_of_ble_eq_true rfl) rfl ?_) | refine r_g rfl rfl (congrArg (fun b => AV.val (.bool b)) (decide_eq_true (by omega))) ?_ | refine r_pick_t rfl rfl (congrArg (fun b => AV.val (.bool b)) (decide_eq_true (by omega))) rfl rfl rfl rfl ?_)
        exact retF1 [vS nm { zS with quotes := acc }, .gone] [(4, .val (.bool true))] (fits_convM (by repeat' first | exact trivial | exact rfl | (rw [List.map_append]; first | done | rfl) | exact c_sub rfl (Sub.refl _) rfl | exact c_nil rfl rfl | exact c_thaw rfl rfl rfl | exact c_row rfl rfl rfl | exact c_row rfl rfl (by rw [List.map_append]; first | done | rfl) | exact c_ptr rfl rfl rfl rfl | exact Or.inl ⟨c_sub rfl (Sub.refl _) rfl, c_ptr rfl rfl rfl rfl⟩ | exact c_alt rfl rfl rfl rfl | exact c_ro rfl rfl | exact c_eo rfl rfl | exact c_sub rfl (Sub.altl _ _) rfl | exact c_sub rfl (Sub.nil _) rfl | refine ⟨_, _, rfl, ?_, ?_⟩ | apply And.intro) ⟨c_sub rfl (Sub.of_eq (congrArg (fun b => AV.val (.bool b)) (decide_eq_true (by omega)))) rfl, trivial⟩ ⟨trivial, trivial⟩) (by first | exact .inl rfl | exact .inr rfl) rfl rfl rfl rfl rfl (Sub.refl _)
      · dsimp only
        rw [if_neg (fun h => h32 h.2)]
        repeat (first | refine awp_seq ?_ | refine thenA_normal ?_ | refine a_region ?_ | refine awp_ret ?_ | refine awp_exit ?_ | refine r_done ?_ | (refine r_id ?_; first | refine r_len tab_ok rfl rfl rfl rfl rfl rfl rfl ?_ | refine r_ev tab_ok rfl rfl rfl rfl (by first | exact trivial | exact ⟨by omega, by omega⟩ | omega | exact ⟨by omega, by omega, by omega, by omega⟩ | exact Nat.le_of_ble_eq_true rfl) rfl ?_) | refine r_g rfl rfl (congrArg (fun b => AV.val (.bool b)) (decide_eq_true (by omega))) ?_ | refine r_pick_t rfl rfl (congrArg (fun b => AV.val (.bool b)) (decide_eq_true (by omega))) rfl rfl rfl rfl ?_)
        exact retF1 [vX, .gone] [(4, .val (.bool false))] (fits_convM (by repeat' first | exact trivial | exact rfl | (rw [List.map_append]; first | done | rfl) | exact c_sub rfl (Sub.refl _) rfl | exact c_nil rfl rfl | exact c_thaw rfl rfl rfl | exact c_row rfl rfl rfl | exact c_row rfl rfl (by rw [List.map_append]; first | done | rfl) | exact c_ptr rfl rfl rfl rfl | exact Or.inl ⟨c_sub rfl (Sub.refl _) rfl, c_ptr rfl rfl rfl rfl⟩ | exact c_alt rfl rfl rfl rfl | exact c_ro rfl rfl | exact c_eo rfl rfl | exact c_sub rfl (Sub.altl _ _) rfl | exact c_sub rfl (Sub.nil _) rfl | refine ⟨_, _, rfl, ?_, ?_⟩ | apply And.intro) ⟨c_sub rfl (Sub.of_eq (congrArg (fun b => AV.val (.bool b)) (decide_eq_false (by omega)))) rfl, trivial⟩ ⟨trivial, trivial⟩) (by first | exact .inl rfl | exact .inr rfl) rfl rfl rfl rfl rfl (Sub.refl _)
    · dsimp only
      rw [if_neg (fun h => h2 h.1)]
      repeat (first | refine awp_seq ?_ | refine thenA_normal ?_ | refine a_region ?_ | refine awp_ret ?_ | refine awp_exit ?_ | refine r_done ?_ | (refine r_id ?_; first | refine r_len tab_ok rfl rfl rfl rfl rfl rfl rfl ?_ | refine r_ev tab_ok rfl rfl rfl rfl (by first | exact trivial | exact ⟨by omega, by omega⟩ | omega | exact ⟨by omega, by omega, by omega, by omega⟩ | exact Nat.le_of_ble_eq_true rfl) rfl ?_) | refine r_pick_f rfl rfl (congrArg (fun b => AV.val (.bool b)) (decide_eq_false (by omega))) rfl rfl rfl rfl ?_ | refine r_off rfl rfl (congrArg (fun b => AV.val (.bool b)) (decide_eq_false (by omega))) rfl rfl rfl ?_)
      exact retF1 [vX, .gone] [(4, .val (.bool false))] (fits_convM (by repeat' first | exact trivial | exact rfl | (rw [List.map_append]; first | done | rfl) | exact c_sub rfl (Sub.refl _) rfl | exact c_nil rfl rfl | exact c_thaw rfl rfl rfl | exact c_row rfl rfl rfl | exact c_row rfl rfl (by rw [List.map_append]; first | done | rfl) | exact c_ptr rfl rfl rfl rfl | exact Or.inl ⟨c_sub rfl (Sub.refl _) rfl, c_ptr rfl rfl rfl rfl⟩ | exact c_alt rfl rfl rfl rfl | exact c_ro rfl rfl | exact c_eo rfl rfl | exact c_sub rfl (Sub.altl _ _) rfl | exact c_sub rfl (Sub.nil _) rfl | refine ⟨_, _, rfl, ?_, ?_⟩ | apply And.intro) (by repeat' first | exact trivial | exact rfl | (rw [List.map_append]; first | done | rfl) | exact c_sub rfl (Sub.refl _) rfl | exact c_nil rfl rfl | exact c_thaw rfl rfl rfl | exact c_row rfl rfl rfl | exact c_row rfl rfl (by rw [List.map_append]; first | done | rfl) | exact c_ptr rfl rfl rfl rfl | exact Or.inl ⟨c_sub rfl (Sub.refl _) rfl, c_ptr rfl rfl rfl rfl⟩ | exact c_alt rfl rfl rfl rfl | exact c_ro rfl rfl | exact c_eo rfl rfl | exact c_sub rfl (Sub.altl _ _) rfl | exact c_sub rfl (Sub.nil _) rfl | refine ⟨_, _, rfl, ?_, ?_⟩ | apply And.intro) ⟨trivial, trivial⟩) (by first | exact .inl rfl | exact .inr rfl) rfl rfl rfl rfl rfl (Sub.refl _)
end Go.Proofs.YtllmagfmbglefaaDoor
