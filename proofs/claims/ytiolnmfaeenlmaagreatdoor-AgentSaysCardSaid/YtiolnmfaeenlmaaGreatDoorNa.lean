import Derived.Test.YtiolnmfaeenlmaaGreatDoorJa
import Derived.Test.YtiolnmfaeenlmaaGreatDoorU5
/- nest: frames and their memory. -/
namespace Go.Proofs.YtiolnmfaeenlmaaGreatDoor
open Go Go.RowKit

structure Fr where
  tok : Tk
  kids : List Nd
  en : ByteArray
def frC (j ver : Nat) (f : Fr) : List AV := [.val (.int .i64 f.tok.kind), .val (.string f.tok.text), .val (.int .i64 f.tok.int), .val (.bool f.tok.whole), .val (.bool f.tok.sign), .val (.bool f.tok.id), .row (2 + j) ver, .val (.string f.en)]
def frCs : Nat → List Fr → List AV
  | _, [] => []
  | j, f :: r => frC j 0 f ++ frCs (j + 1) r
def kRow (k : List Nd) : AB := .row 0 49 7 (k.map nF)
def frRows (fs : List Fr) : List AB := fs.map fun f => kRow f.kids
def openB (n : Nat) (cells : List AV) : AB := .rowo 0 99 8 [] n cells
/-- What One owns: the node, the open frames, each frame's kids. -/
def oneM (nb : AB) (fs : List Fr) : List AB := nb :: openB fs.length (frCs 0 fs) :: frRows fs
theorem frCs_append : ∀ (j : Nat) (gs : List Fr) (f : Fr), frCs j (gs ++ [f]) = frCs j gs ++ frC (j + gs.length) 0 f
  | j, [], f => by simp [frCs]
  | j, g :: gs, f => by
    rw [List.cons_append, frCs, frCs_append (j + 1) gs f, frCs, List.length_cons, List.append_assoc, show j + 1 + gs.length = j + (gs.length + 1) by omega]
theorem frCs_len : ∀ (j : Nat) (gs : List Fr), (frCs j gs).length = gs.length * 8
  | _, [] => rfl
  | j, g :: gs => by
    rw [frCs, List.length_append, frCs_len (j + 1) gs, List.length_cons, show (frC j 0 g).length = 8 from rfl]
    omega
theorem oneM_len (nb : AB) (fs : List Fr) : (oneM nb fs).length = fs.length + 2 := by simp [oneM, frRows]
theorem oneM_top (nb : AB) (gs : List Fr) (f : Fr) : (oneM nb (gs ++ [f]))[2 + gs.length]? = some (kRow f.kids) := by
  rw [oneM, Nat.add_comm, List.getElem?_cons_succ, List.getElem?_cons_succ, frRows, List.map_append, List.getElem?_append_right (by simp)]
  simp
theorem frC_under {j ver n : Nat} (f : Fr) (h : 2 + j < n) : AV.unders n (frC j ver f) = true := by
  simp [frC, AV.unders, AV.under, h]
theorem frCs_under : ∀ (j : Nat) (gs : List Fr) (n : Nat), 2 + j + gs.length ≤ n → AV.unders n (frCs j gs) = true
  | _, [], _, _ => rfl
  | j, g :: gs, n, h => by
    rw [List.length_cons] at h
    have h1 := frC_under (j := j) (ver := 0) (n := n) g (by omega)
    have h2 := frCs_under (j + 1) gs n (by omega)
    have : ∀ a b : List AV, AV.unders n a = true → AV.unders n b = true → AV.unders n (a ++ b) = true := by
      intro a b ha hb
      induction a with
      | nil => exact hb
      | cons x r ih =>
        rw [List.cons_append]
        simp only [AV.unders, Bool.and_eq_true] at ha ⊢
        exact ⟨ha.1, ih ha.2⟩
    exact this _ _ h1 h2
theorem unders_append {n : Nat} {a b : List AV} (ha : AV.unders n a = true) (hb : AV.unders n b = true) : AV.unders n (a ++ b) = true := by
  induction a with
  | nil => exact hb
  | cons x r ih =>
    rw [List.cons_append]
    simp only [AV.unders, Bool.and_eq_true] at ha ⊢
    exact ⟨ha.1, ih ha.2⟩
theorem frCs_top (gs : List Fr) (f : Fr) : (frCs 0 (gs ++ [f])).drop (gs.length * 8 + 6) = [.row (2 + gs.length) 0, .val (.string f.en)] := by
  rw [frCs_append, ← frCs_len 0 gs, List.drop_length_add_append, Nat.zero_add]
  rfl
theorem frCs_node (gs : List Fr) (f : Fr) : (frCs 0 (gs ++ [f])).drop (gs.length * 8) = frC gs.length 0 f := by
  rw [frCs_append, ← frCs_len 0 gs, List.drop_left, Nat.zero_add]
theorem frCs_end (gs : List Fr) (f : Fr) : (frCs 0 (gs ++ [f])).drop (gs.length * 8 + 7) = [.val (.string f.en)] := by
  rw [frCs_append, ← frCs_len 0 gs, List.drop_length_add_append, Nat.zero_add]
  rfl
theorem frCs_put (gs : List Fr) (f : Fr) : putCells (frCs 0 (gs ++ [f])) (gs.length * 8 + 6) [.row (2 + gs.length) 2] = frCs 0 gs ++ frC gs.length 2 f := by
  have h1 := frCs_len 0 gs
  unfold putCells
  rw [frCs_append, ← h1, List.take_length_add_append, Nat.zero_add, List.append_assoc, List.append_assoc]
  congr 1
  rw [show (frCs 0 gs).length + 6 + [AV.row (2 + gs.length) 2].length = (frCs 0 gs).length + 7 from rfl, List.drop_length_add_append]
  rfl
theorem frRows_set (gs : List Fr) (f : Fr) (x : AB) : (frRows (gs ++ [f])).set gs.length x = frRows gs ++ [x] := by
  have h : (frRows gs).length = gs.length := List.length_map _
  rw [frRows, List.map_append, ← frRows, ← h, List.set_append_right _ _ (Nat.le_refl _), Nat.sub_self]
  rfl
theorem oneM_set (nb : AB) (gs : List Fr) (f : Fr) (X Y : AB) : ((oneM nb (gs ++ [f])).set (2 + gs.length) X).set 1 Y = nb :: Y :: (frRows gs ++ [X]) := by
  have h : (oneM nb (gs ++ [f])).set (gs.length + 2) X = nb :: openB (gs ++ [f]).length (frCs 0 (gs ++ [f])) :: (frRows (gs ++ [f])).set gs.length X := rfl
  rw [Nat.add_comm, h, frRows_set]
  rfl
theorem oneM_set2 (nb : AB) (gs : List Fr) (X X' Y : AB) : (nb :: Y :: (frRows gs ++ [X])).set (2 + gs.length) X' = nb :: Y :: (frRows gs ++ [X']) := by
  have h : (nb :: Y :: (frRows gs ++ [X])).set (gs.length + 2) X' = nb :: Y :: (frRows gs ++ [X]).set gs.length X' := rfl
  have hl : (frRows gs).length = gs.length := List.length_map _
  rw [Nat.add_comm, h, ← hl, List.set_append_right _ _ (Nat.le_refl _), Nat.sub_self]
  rfl
section
variable {P : Program} {o : Oper} {M M' : List AB} {ρ ρ' : Operand → AV} {out : AV}
/-- What is known of the operands may be weakened. -/
theorem AStep.sub (h : AStep P o M ρ' M' out) (hs : ∀ x ∈ o.op.operands, Sub (ρ x) (ρ' x)) : AStep P o M ρ M' out :=
  fun S B β a w hm hh K Q hK => h S B β a w hm (fun x hx => hs x hx _ _ _ _ _ (hh x hx)) K Q hK
theorem vals_sat_ {M : List AB} {β : Env} {w : World} {imm : Nat → Prop} : ∀ l : List Value, AVsats M β w imm (l.map .val) l
  | [] => rfl
  | v :: r => ⟨v, r, rfl, rfl, vals_sat_ r⟩
theorem sub_agg (cs : Array Value) : Sub (.val (.agg cs)) (.agg (cs.toList.map .val)) := fun M β w imm v h => by
  have h : v = .agg cs := h
  subst h
  exact ⟨cs, rfl, vals_sat_ _⟩
/-- A constant struct, taken apart. -/
def unagg (ρ : Operand → AV) (x : Operand) : AV := match ρ x with
  | .val (.agg cs) => .agg (cs.toList.map .val)
  | y => y
theorem unagg_sub (ρ : Operand → AV) (x : Operand) : Sub (ρ x) (unagg ρ x) := by
  unfold unagg
  split
  · rename_i cs h
    rw [h]
    exact sub_agg cs
  · exact Sub.refl _
end
def zD : D := .ag [.val (.int .i64 0), .val (.string ⟨#[]⟩), .val (.int .i64 0), .val (.bool false), .val (.bool false), .val (.bool false), .val (.slice none 0 0)]
end Go.Proofs.YtiolnmfaeenlmaaGreatDoor

/- nest: put. -/
namespace Go.Proofs.YtiolnmfaeenlmaaGreatDoor
open Go Go.RowKit
set_option maxRecDepth 20000

def putM (nb : AB) (gs : List Fr) (f : Fr) (n : Nd) : List AB :=
  if gs.length + 1 < 32 then nb :: openB (gs.length + 1) (frCs 0 gs ++ frC gs.length 2 f) :: (frRows gs ++ [.row 2 49 7 ((f.kids ++ [n]).map nF)]) else oneM nb (gs ++ [f])
theorem oneM_under (nb : AB) (fs : List Fr) (h : AB.under (fs.length + 2) nb = true) : (oneM nb fs).all (AB.under (fs.length + 2)) = true := by
  rw [oneM, List.all_cons, List.all_cons, h, Bool.true_and]
  have h1 : AB.under (fs.length + 2) (openB fs.length (frCs 0 fs)) = true := frCs_under 0 fs _ (by omega)
  rw [h1, Bool.true_and, frRows, List.all_map, List.all_eq_true]
  intro f _
  rfl
theorem putM_under (nb : AB) (gs : List Fr) (f : Fr) (n : Nd) (hnb : AB.under (gs.length + 3) nb = true) {M0 : List AB} (hml : M0.length = (gs ++ [f]).length + 2) (hfl : (gs ++ [f]).length = gs.length + 1) :
    (nb :: openB (gs.length + 1) (frCs 0 gs ++ frC gs.length 2 f) :: (frRows gs ++ [.row 2 49 7 ((f.kids ++ [n]).map nF)])).all (AB.under M0.length) = true := by
  rw [hml, hfl, List.all_cons, List.all_cons, hnb, Bool.true_and]
  have h1 : AB.under (gs.length + 1 + 2) (openB (gs.length + 1) (frCs 0 gs ++ frC gs.length 2 f)) = true := unders_append (frCs_under 0 gs _ (by omega)) (frC_under f (by omega))
  rw [h1, Bool.true_and, List.all_append, frRows, List.all_map, Bool.and_eq_true]
  exact ⟨by rw [List.all_eq_true]; intro f _; rfl, rfl⟩
set_option maxHeartbeats 4000000 in
theorem put_ok (nb : AB) (gs : List Fr) (f : Fr) (n : Nd) (hnb : AB.under (gs.length + 3) nb = true) (hg : gs.length ≤ 1099511627776) (hk : f.kids.length ≤ 1099511627776) :
    MCalls Tryz.prog 64 (oneM nb (gs ++ [f])) [.row 1 0, nA n] (putM nb gs f n) (.tup []) := by
  have hfl : (gs ++ [f]).length = gs.length + 1 := by rw [List.length_append, List.length_singleton]
  have hml := oneM_len nb (gs ++ [f])
  have hmu := oneM_under nb (gs ++ [f]) (by rw [hfl]; exact hnb)
  have htop := oneM_top nb gs f
  refine m_start Tryz.func64 Tryz.ntmps64 rfl rfl rfl fun S w β => ?_
  obtain ⟨M0, hM0⟩ : ∃ M0, M0 = oneM nb (gs ++ [f]) := ⟨_, rfl⟩
  have hopen : M0[1]? = some (openB (gs.length + 1) (frCs 0 (gs ++ [f]))) := by rw [hM0, ← hfl]; rfl
  rw [← hM0] at htop hml hmu ⊢
  repeat (first | refine awp_seq ?_)
  refine a_region ?_
  repeat (first | refine awp_seq ?_ | refine r_done ?_ | (refine r_id ?_; first | refine r_wr tab_ok rfl rfl rfl rfl rfl ?_))
  refine awp_fits (s' := ⟨M0, [(0, .row 1 0), (3, .dptr (ncl n))]⟩) (fits_trans (fits_sinkp (i := M0.length) (d := 3) (T := 49) (l := ncl n) (by rw [List.getElem?_append_right (Nat.le_refl _), Nat.sub_self]; rfl) rfl rfl) (fits_drop M0.length (by simp) (by rw [hml]; exact hmu) ⟨⟨by rw [hml]; rfl, Sub.refl _⟩, ⟨rfl, Sub.refl _⟩, trivial⟩ (by simp))) ?_
  repeat (first | refine a_region ?_ | (refine r_id ?_; first | refine r_ev tab_ok rfl rfl rfl rfl byE rfl ?_))
  refine r_len_o tab_ok rfl rfl rfl rfl hopen rfl rfl rfl ?_
  rw [show ([] : List D).length + (gs.length + 1) = gs.length + 1 from Nat.zero_add _]
  repeat (first | refine awp_seq ?_ | refine thenA_normal ?_ | refine a_region ?_ | refine r_done ?_ | (refine r_id ?_; first | refine r_ev tab_ok rfl rfl rfl rfl byE rfl ?_ | refine r_ev_cnd tab_ok rfl rfl rfl rfl rfl rfl byC (by first | exact fun _ => trivial | (intro h; simp at h; first | exact ⟨by omega, by omega⟩ | omega)) rfl ?_ | refine r_and rfl rfl rfl rfl rfl rfl rfl rfl ?_))
  refine awp_cond rfl (fun h => ?_) (fun h => ?_)
  · have h32 : gs.length + 1 < 32 := by simp at h; omega
    rw [putM, if_pos h32]
    refine awp_seq ?_
    refine a_coin tab_ok mixed_ok rfl rfl rfl rfl rfl rfl rfl rfl rfl rfl rfl rfl rfl rfl rfl rfl rfl (by kernel_rfl) (by kernel_rfl) (by kernel_rfl) (by kernel_rfl) (by kernel_rfl) (by kernel_rfl) (fun b => rfl) (fun b => ?_)
    refine thenA_normal ?_
    refine awp_fits (s' := ⟨M0, [(0, .row 1 0), (3, .dptr (ncl n)), (4, .val (.int .i64 (gs.length + 1 : Nat))), (14, .val (.bool b))]⟩) (fits_drop M0.length (by simp) (by rw [hml]; exact hmu) ⟨⟨by rw [hml]; rfl, Sub.refl _⟩, ⟨rfl, Sub.refl _⟩, ⟨rfl, Sub.refl _⟩, ⟨rfl, Sub.refl _⟩, trivial⟩ (by simp)) ?_
    have hj : (((gs.length + 1 : Nat) : Int) - 1).toNat = gs.length := by omega
    have hnf : (f.kids.map nF).length = f.kids.length := List.length_map _
    refine awp_cond rfl (fun hb => ?_) (fun hb => ?_)
    · subst hb
      repeat (first | refine awp_seq ?_)
      refine a_draw rfl (List.replicate 13 1 ++ [2, 1, 1, 1, 2]) (by kernel_rfl) ?_
      repeat (first | (refine r_id ?_; first | refine r_ev tab_ok rfl rfl rfl rfl byE rfl ?_))
      refine r_idx_o tab_ok rfl rfl rfl rfl hopen rfl rfl rfl (by omega) (by rw [hj]; simp) rfl ?_
      rw [hj]
      refine r_field_o tab_ok rfl rfl rfl rfl hopen rfl rfl rfl ?_
      refine r_field_o tab_ok rfl rfl rfl rfl hopen rfl rfl rfl ?_
      refine r_ld_o tab_ok rfl rfl rfl rfl hopen (o' := gs.length * 8 + 6) (by simp) (by rw [frCs_top]; rfl) rfl rfl rfl ?_
      repeat (first | (refine r_id ?_; first | refine r_ev tab_ok rfl rfl rfl rfl byE rfl ?_))
      refine r_by1 (astep_len_row tab_ok rfl rfl rfl htop) rfl rfl rfl rfl rfl ?_
      refine r_by1 (AStep.sub (astep_buildSlice (ρ := unagg _) (ds := [zD]) tab_ok rfl rfl rfl rfl rfl) (fun x _ => unagg_sub _ x)) rfl rfl rfl rfl rfl ?_
      refine r_append tab_ok rfl rfl rfl rfl rfl htop rfl rfl rfl (by rw [hnf]; simp; omega) rfl ?_
      have hop : ∀ X, (M0.set (2 + gs.length) X)[1]? = some (openB (gs.length + 1) (frCs 0 (gs ++ [f]))) := fun X => by rw [List.getElem?_set_ne (by omega)]; exact hopen
      have hse : ∀ X, (M0.set (2 + gs.length) X)[2 + gs.length]? = some X := fun X => List.getElem?_set_self (by omega)
      have hse2 : ∀ X Y, ((M0.set (2 + gs.length) X).set 1 Y)[2 + gs.length]? = some X := fun X Y => by rw [List.getElem?_set_ne (by omega)]; exact hse X
      refine r_idx_o tab_ok rfl rfl rfl rfl (hop _) rfl rfl rfl (by omega) (by rw [hj]; simp) rfl ?_
      rw [hj]
      refine r_field_o tab_ok rfl rfl rfl rfl (hop _) rfl rfl rfl ?_
      refine r_field_o tab_ok rfl rfl rfl rfl (hop _) rfl rfl rfl ?_
      refine r_by2n (astep_store_o tab_ok rfl rfl rfl (hop _) (o' := gs.length * 8 + 6) (by simp) (by show (freshRow _ _ _ && true) = true; rw [freshRow, hse]; rfl) rfl (by rw [frCs_len, hfl]; simp; omega)) rfl rfl rfl ?_
      repeat (first | refine thenA_normal ?_ | refine a_region ?_ | refine r_done' ?_)
      have hlk : (((f.kids.map nF).length : Nat) : Int).toNat = (f.kids.map nF).length := Int.toNat_natCast _
      refine r_idxr tab_ok rfl rfl rfl rfl (hse2 _ _) rfl rfl rfl ⟨by omega, by rw [hlk, List.length_append]; exact Nat.lt_succ_self _⟩ rfl ?_
      refine r_by2n (astep_store_e (d := zD) (xd := nF n) (r := nF n) tab_ok rfl rfl rfl (hse2 _ _) (by rw [hlk, List.getElem?_append_right (Nat.le_refl _), Nat.sub_self]; rfl) rfl rfl rfl rfl rfl) rfl rfl rfl ?_
      repeat (first | refine r_done ?_)
      refine retM0 byO rfl ?_ (putM_under nb gs f n hnb hml hfl)
      dsimp only
      rw [hM0, oneM_set, oneM_set2, show (cellsOf _ : List AV) = [.row (2 + gs.length) 2] from rfl, frCs_put, hlk, List.set_append_right _ _ (Nat.le_refl _), Nat.sub_self, List.map_append]
      rw [List.take_of_length_le (by rw [oneM_len, hfl]; simp [frRows])]
      rfl
    · subst hb
      refine a_draw rfl ([0, 0, 0, 1, 1, 1, 1, 1, 1, 1, 1, 1, 2, 1, 1, 1, 2]) (by kernel_rfl) ?_
      repeat (first | (refine r_id ?_; first | refine r_ev tab_ok rfl rfl rfl rfl byE rfl ?_))
      refine r_idx_o tab_ok rfl rfl rfl rfl hopen rfl rfl rfl (by omega) (by rw [hj]; simp) rfl ?_
      rw [hj]
      refine r_field_o tab_ok rfl rfl rfl rfl hopen rfl rfl rfl ?_
      refine r_field_o tab_ok rfl rfl rfl rfl hopen rfl rfl rfl ?_
      refine r_ld_o tab_ok rfl rfl rfl rfl hopen (o' := gs.length * 8 + 6) (by simp) (by rw [frCs_top]; rfl) rfl rfl rfl ?_
      repeat (first | (refine r_id ?_; first | refine r_ev tab_ok rfl rfl rfl rfl byE rfl ?_ | refine r_built tab_ok rfl rfl rfl rfl rfl rfl rfl rfl rfl ?_))
      refine r_append tab_ok rfl rfl rfl rfl rfl htop rfl rfl rfl (by rw [hnf]; simp; omega) rfl ?_
      have hop : ∀ X, (M0.set (2 + gs.length) X)[1]? = some (openB (gs.length + 1) (frCs 0 (gs ++ [f]))) := fun X => by rw [List.getElem?_set_ne (by omega)]; exact hopen
      have hse : ∀ X, (M0.set (2 + gs.length) X)[2 + gs.length]? = some X := fun X => List.getElem?_set_self (by omega)
      refine r_idx_o tab_ok rfl rfl rfl rfl (hop _) rfl rfl rfl (by omega) (by rw [hj]; simp) rfl ?_
      rw [hj]
      refine r_field_o tab_ok rfl rfl rfl rfl (hop _) rfl rfl rfl ?_
      refine r_field_o tab_ok rfl rfl rfl rfl (hop _) rfl rfl rfl ?_
      refine r_by2n (astep_store_o tab_ok rfl rfl rfl (hop _) (o' := gs.length * 8 + 6) (by simp) (by show (freshRow _ _ _ && true) = true; rw [freshRow, hse]; rfl) rfl (by rw [frCs_len, hfl]; simp; omega)) rfl rfl rfl ?_
      repeat (first | refine r_done' ?_)
      refine retM0 byO rfl ?_ (putM_under nb gs f n hnb hml hfl)
      dsimp only
      rw [hM0, oneM_set, show (cellsOf _ : List AV) = [.row (2 + gs.length) 2] from rfl, frCs_put, List.map_append]
      rw [List.take_of_length_le (by rw [oneM_len, hfl]; simp [frRows])]
      rfl
  · have h32 : ¬ gs.length + 1 < 32 := by simp at h; omega
    rw [putM, if_neg h32, ← hM0]
    repeat (first | refine awp_skip ?_)
    exact retM0 byO rfl (by simp) (by rw [hml]; exact hmu)
/-- With nothing open it does nothing. -/
theorem put_ok0 (nb : AB) (n : Nd) (hnb : AB.under 2 nb = true) : MCalls Tryz.prog 64 (oneM nb []) [.row 1 0, nA n] (oneM nb []) (.tup []) := by
  refine m_start Tryz.func64 Tryz.ntmps64 rfl rfl rfl fun S w β => ?_
  have hmu := oneM_under nb [] hnb
  repeat (first | refine awp_seq ?_ | refine a_region ?_ | refine r_done ?_ | (refine r_id ?_; first | refine r_ev tab_ok rfl rfl rfl rfl byE rfl ?_ | refine r_wr tab_ok rfl rfl rfl rfl rfl ?_))
  refine r_len_o tab_ok rfl rfl rfl rfl rfl rfl rfl rfl ?_
  repeat (first | refine awp_seq ?_ | refine thenA_normal ?_ | refine a_region ?_ | refine awp_skip ?_ | refine r_done ?_ | (refine r_id ?_; first | refine r_ev tab_ok rfl rfl rfl rfl byE rfl ?_ | refine r_ev_cnd tab_ok rfl rfl rfl rfl rfl rfl byC (by first | exact fun _ => trivial | (intro h; simp at h; first | exact ⟨by omega, by omega⟩ | omega)) rfl ?_ | refine r_and rfl rfl rfl rfl rfl rfl rfl rfl ?_) | refine awp_cond_f rfl ?_)
  all_goals exact retM0 byO rfl rfl hmu
end Go.Proofs.YtiolnmfaeenlmaaGreatDoor

/- nest: frames' memory, said otherwise. -/
namespace Go.Proofs.YtiolnmfaeenlmaaGreatDoor
open Go Go.RowKit
set_option maxRecDepth 20000

theorem convs_append {M M' : List AB} : ∀ {a a' b b' : List AV}, Convs M M' a a' → Convs M M' b b' → Convs M M' (a ++ b) (a' ++ b')
  | [], _, _, _, h, k => by rw [show _ = [] from h]; exact k
  | x :: l, _, _, _, ⟨y, r, h1, h2, h3⟩, k => ⟨y, r ++ _, by rw [h1]; rfl, h2, convs_append h3 k⟩
theorem convs_frC {M M' : List AB} {j v v' : Nat} {es : List D} (f : Fr) (h : M[2 + j]? = some (.row v 49 7 es)) (h' : M'[2 + j]? = some (.row v' 49 7 es)) (g : Fr) (hg : f.tok = g.tok ∧ f.en = g.en) : Convs M M' (frC j v f) (frC j v' g) := by
  rw [frC, frC, hg.1, hg.2]
  exact ⟨_, _, rfl, c_sub rfl (Sub.refl _) rfl, _, _, rfl, c_sub rfl (Sub.refl _) rfl, _, _, rfl, c_sub rfl (Sub.refl _) rfl, _, _, rfl, c_sub rfl (Sub.refl _) rfl, _, _, rfl, c_sub rfl (Sub.refl _) rfl, _, _, rfl, c_sub rfl (Sub.refl _) rfl, _, _, rfl, c_row h h' rfl, _, _, rfl, c_sub rfl (Sub.refl _) rfl, rfl⟩
theorem convs_frCs {M M' : List AB} : ∀ (j : Nat) (gs : List Fr), (∀ i (h : i < gs.length), M[2 + (j + i)]? = some (kRow gs[i].kids) ∧ M'[2 + (j + i)]? = some (kRow gs[i].kids)) → Convs M M' (frCs j gs) (frCs j gs)
  | _, [], _ => rfl
  | j, f :: gs, h => by
    rw [frCs]
    have h0 := h 0 (Nat.succ_pos _)
    refine convs_append (convs_frC f (v := 0) (v' := 0) h0.1 h0.2 f ⟨rfl, rfl⟩) (convs_frCs (j + 1) gs fun i hi => ?_)
    have h1 := h (i + 1) (by rw [List.length_cons]; omega)
    rw [show j + 1 + i = j + (i + 1) by omega]
    exact h1
theorem memC_append {M M' : List AB} : ∀ {a a' b b' : List AB}, a.length = a'.length → MemC M M' a a' → MemC M M' b b' → MemC M M' (a ++ b) (a' ++ b')
  | [], [], _, _, _, _, k => k
  | x :: xs, y :: ys, _, _, hl, h, k => ⟨h.1, memC_append (by simpa using hl) h.2 k⟩
  | [], _ :: _, _, _, hl, _, _ => by simp at hl
  | _ :: _, [], _, _, hl, _, _ => by simp at hl
theorem memC_rows {M M' : List AB} : ∀ gs : List Fr, MemC M M' (frRows gs) (frRows gs)
  | [] => trivial
  | f :: gs => ⟨⟨rfl, rfl, rfl, rfl⟩, memC_rows gs⟩
def mOf (nb : AB) (v mo : Nat) (gs : List Fr) (c : List AV) (rest : List AB) : List AB := nb :: .rowo v 99 8 [] mo (frCs 0 gs ++ c) :: (frRows gs ++ rest)
theorem mOf_at {nb : AB} {v mo : Nat} {gs : List Fr} {c : List AV} {rest : List AB} {i : Nat} (h : i < gs.length) : (mOf nb v mo gs c rest)[2 + (0 + i)]? = some (kRow gs[i].kids) := by
  rw [Nat.zero_add, Nat.add_comm, mOf, List.getElem?_cons_succ, List.getElem?_cons_succ, List.getElem?_append_left (by rw [frRows, List.length_map]; exact h)]
  simp [frRows, h]
theorem mOf_rest {nb : AB} {v mo : Nat} {gs : List Fr} {c : List AV} {x : AB} {rest : List AB} : (mOf nb v mo gs c (x :: rest))[2 + gs.length]? = some x := by
  rw [Nat.add_comm, mOf, List.getElem?_cons_succ, List.getElem?_cons_succ, List.getElem?_append_right (by simp [frRows])]
  simp [frRows]
theorem mOf_len {nb : AB} {v mo : Nat} {gs : List Fr} {c : List AV} {rest : List AB} : (mOf nb v mo gs c rest).length = gs.length + 2 + rest.length := by
  simp [mOf, frRows]
  omega
theorem memC_one {nb nb' : AB} {v v' mo : Nat} {gs : List Fr} {c c' : List AV} {rest rest' : List AB} (hnb : EntC (mOf nb v mo gs c rest) (mOf nb' v' mo gs c' rest') nb nb') (hc : Convs (mOf nb v mo gs c rest) (mOf nb' v' mo gs c' rest') c c')
    (hr : MemC (mOf nb v mo gs c rest) (mOf nb' v' mo gs c' rest') rest rest') : MemC (mOf nb v mo gs c rest) (mOf nb' v' mo gs c' rest') (mOf nb v mo gs c rest) (mOf nb' v' mo gs c' rest') := by
  refine ⟨hnb, ⟨rfl, rfl, rfl, rfl, convs_append (convs_frCs 0 gs fun i h => ⟨mOf_at h, mOf_at h⟩) hc⟩, memC_append rfl (memC_rows gs) hr⟩
theorem oneM_mOf (nb : AB) (gs : List Fr) (f : Fr) : oneM nb (gs ++ [f]) = mOf nb 0 (gs.length + 1) gs (frC gs.length 0 f) [kRow f.kids] := by
  rw [oneM, mOf, openB, frCs_append, Nat.zero_add, List.length_append, List.length_singleton, frRows, List.map_append]
  rfl
def nbA : AB := .box 49 [.any, .any, .any, .any, .any, .any, .any]
theorem entC_any {M M' : List AB} {a b c d e f g : AV} : EntC M M' (.box 49 [a, b, c, d, e, f, g]) nbA :=
  ⟨rfl, _, _, rfl, by cases a <;> trivial, _, _, rfl, by cases b <;> trivial, _, _, rfl, by cases c <;> trivial, _, _, rfl, by cases d <;> trivial, _, _, rfl, by cases e <;> trivial, _, _, rfl, by cases f <;> trivial, _, _, rfl, by cases g <;> trivial, rfl⟩
def newC (f : Fr) : List AV := [.val (.int .i64 f.tok.kind), .val (.string f.tok.text), .val (.int .i64 f.tok.int), .val (.bool f.tok.whole), .val (.bool f.tok.sign), .val (.bool f.tok.id), .val (.slice none 0 0), .val (.string f.en)]
section
variable {P : Program} {N : Nat} {S : Nat → Prop} {w0 : World} {β0 : Env} {L : Option Nat} {F F' : List (Nat × AV)}
/-- A frame more: its kids are taken up out of nil. -/
theorem fits_push (gs : List Fr) (f : Fr) (v : Nat) (hf : f.kids = []) (hF : KeepC (mOf nbA v (gs.length + 1) gs (newC f) []) (mOf nbA 0 (gs.length + 1) gs (frC gs.length 0 f) [kRow f.kids]) F F') :
    Fits ⟨P, N, S, w0, [], β0, L⟩ ⟨nbA :: .rowo v 99 8 [] (gs.length + 1) (frCs 0 gs ++ newC f) :: frRows gs, F⟩ ⟨oneM nbA (gs ++ [f]), F'⟩ := by
  have e : nbA :: .rowo v 99 8 [] (gs.length + 1) (frCs 0 gs ++ newC f) :: frRows gs = mOf nbA v (gs.length + 1) gs (newC f) [] := by rw [mOf, List.append_nil]
  rw [e, oneM_mOf]
  refine fits_conv (memC_one entC_any ?_ ⟨rfl, by rw [hf]; rfl, trivial⟩) hF
  have h1 : (mOf nbA 0 (gs.length + 1) gs (frC gs.length 0 f) [kRow f.kids])[2 + gs.length]? = some (.row 0 49 7 []) := by rw [mOf_rest, hf]; rfl
  exact ⟨_, _, rfl, c_sub rfl (Sub.refl _) rfl, _, _, rfl, c_sub rfl (Sub.refl _) rfl, _, _, rfl, c_sub rfl (Sub.refl _) rfl, _, _, rfl, c_sub rfl (Sub.refl _) rfl, _, _, rfl, c_sub rfl (Sub.refl _) rfl, _, _, rfl, c_sub rfl (Sub.refl _) rfl, _, _, rfl, c_nil h1 (by rw [mOf_len, Nat.ble_eq]; simp; omega), _, _, rfl, c_sub rfl (Sub.refl _) rfl, rfl⟩
/-- What put leaves. -/
theorem fits_put (a b c d e g h : AV) (gs : List Fr) (f : Fr) (n : Nd) (hF : ∀ M M' : List AB, M[1]? = some (openB (gs.length + 1) (if gs.length + 1 < 32 then frCs 0 gs ++ frC gs.length 2 f else frCs 0 (gs ++ [f]))) → M[0]? = some (.box 49 [a, b, c, d, e, g, h]) → M'[0]? = some nbA → M'[1]? = some (openB (gs.length + 1) (frCs 0 (gs ++ [if gs.length + 1 < 32 then { f with kids := f.kids ++ [n] } else f]))) → KeepC M M' F F') :
    Fits ⟨P, N, S, w0, [], β0, L⟩ ⟨putM (.box 49 [a, b, c, d, e, g, h]) gs f n, F⟩ ⟨oneM nbA (gs ++ [if gs.length + 1 < 32 then { f with kids := f.kids ++ [n] } else f]), F'⟩ := by
  by_cases h32 : gs.length + 1 < 32
  · simp only [if_pos h32] at hF ⊢
    rw [putM, if_pos h32, oneM_mOf]
    have e1 : (.box 49 [a, b, c, d, e, g, h]) :: openB (gs.length + 1) (frCs 0 gs ++ frC gs.length 2 f) :: (frRows gs ++ [.row 2 49 7 ((f.kids ++ [n]).map nF)]) = mOf (.box 49 [a, b, c, d, e, g, h]) 0 (gs.length + 1) gs (frC gs.length 2 f) [.row 2 49 7 ((f.kids ++ [n]).map nF)] := rfl
    rw [e1]
    refine fits_conv (memC_one entC_any (convs_frC f mOf_rest mOf_rest _ ⟨rfl, rfl⟩) ⟨⟨rfl, rfl, rfl, rfl⟩, trivial⟩) (hF _ _ rfl rfl rfl ?_)
    rw [frCs_append, Nat.zero_add]
    rfl
  · simp only [if_neg h32] at hF ⊢
    rw [putM, if_neg h32, oneM_mOf, oneM_mOf]
    refine fits_conv (memC_one entC_any (convs_frC f (v := 0) (v' := 0) mOf_rest mOf_rest _ ⟨rfl, rfl⟩) ⟨⟨rfl, rfl, rfl, rfl⟩, trivial⟩) (hF _ _ ?_ rfl rfl ?_)
    · rw [frCs_append, Nat.zero_add]
      rfl
    · rw [frCs_append, Nat.zero_add]
      rfl
theorem frCs_take (gs : List Fr) (f : Fr) : (frCs 0 (gs ++ [f])).take (gs.length * 8) = frCs 0 gs := by
  rw [frCs_append, ← frCs_len 0 gs, List.take_left]
theorem freshTop (nb : AB) (gs : List Fr) (f : Fr) : freshRow (oneM nb (gs ++ [f])) (2 + gs.length) 0 = true := by
  rw [freshRow, oneM_top]
  rfl
/-- The innermost frame is let go: its node is data. -/
theorem fits_pop (gs : List Fr) (f : Fr) (hF : ∀ M M' : List AB, M[0]? = some (.box 49 [.val (.int .i64 f.tok.kind), .val (.string f.tok.text), .val (.int .i64 f.tok.int), .val (.bool f.tok.whole), .val (.bool f.tok.sign), .val (.bool f.tok.id), .row (2 + gs.length) 0]) →
      M[1]? = some (.rowo 2 99 8 [] gs.length (frCs 0 gs)) → M'[0]? = some (.box 49 (ncl (.mk f.tok f.kids))) → M'[1]? = some (openB gs.length (frCs 0 gs)) → KeepC M M' F F') (hB : keepsB (gs.length + 2) F' F') :
    Fits ⟨P, N, S, w0, [], β0, L⟩ ⟨.box 49 [.val (.int .i64 f.tok.kind), .val (.string f.tok.text), .val (.int .i64 f.tok.int), .val (.bool f.tok.whole), .val (.bool f.tok.sign), .val (.bool f.tok.id), .row (2 + gs.length) 0] :: .rowo 2 99 8 [] gs.length ((frCs 0 (gs ++ [f])).take (gs.length * 8)) :: frRows (gs ++ [f]), F⟩
      ⟨oneM (.box 49 (ncl (.mk f.tok f.kids))) gs, F'⟩ := by
  have e1 : .box 49 [.val (.int .i64 f.tok.kind), .val (.string f.tok.text), .val (.int .i64 f.tok.int), .val (.bool f.tok.whole), .val (.bool f.tok.sign), .val (.bool f.tok.id), .row (2 + gs.length) 0] :: .rowo 2 99 8 [] gs.length ((frCs 0 (gs ++ [f])).take (gs.length * 8)) :: frRows (gs ++ [f]) =
      mOf (.box 49 [.val (.int .i64 f.tok.kind), .val (.string f.tok.text), .val (.int .i64 f.tok.int), .val (.bool f.tok.whole), .val (.bool f.tok.sign), .val (.bool f.tok.id), .row (2 + gs.length) 0]) 2 gs.length gs [] [kRow f.kids] := by
    rw [mOf, frCs_take, List.append_nil, frRows, List.map_append]
    rfl
  rw [e1]
  refine fits_trans (s' := ⟨mOf (.box 49 (ncl (.mk f.tok f.kids))) 0 gs.length gs [] [.gone], F'⟩) (fits_conv (memC_one ⟨rfl, _, _, rfl, c_sub rfl (Sub.refl _) rfl, _, _, rfl, c_sub rfl (Sub.refl _) rfl, _, _, rfl, c_sub rfl (Sub.refl _) rfl, _, _, rfl, c_sub rfl (Sub.refl _) rfl, _, _, rfl, c_sub rfl (Sub.refl _) rfl, _, _, rfl, c_sub rfl (Sub.refl _) rfl, _, _, rfl, c_thaw (es := f.kids.map nF) (es' := f.kids.map nD) mOf_rest mOf_rest (by rw [nD_fun]), rfl⟩ rfl ⟨trivial, trivial⟩)
      (hF _ _ rfl (by rw [mOf, List.append_nil]; rfl) rfl (by rw [mOf, List.append_nil]; rfl))) (fits_drop (gs.length + 2) ?_ ?_ hB rfl)
  · rw [mOf, oneM, List.append_nil]
    have h : (frRows gs).length = gs.length := List.length_map _
    rw [List.take_succ_cons, List.take_succ_cons, ← h, List.take_left]
    rfl
  · exact oneM_under _ gs rfl
end
end Go.Proofs.YtiolnmfaeenlmaaGreatDoor

/- nest: One. -/
namespace Go.Proofs.YtiolnmfaeenlmaaGreatDoor
open Go Go.RowKit
set_option maxRecDepth 20000

def ndOf (f : Fr) : Nd := .mk f.tok f.kids
def putT (n : Nd) : List Fr → List Fr
  | [] => []
  | f :: r => (if r.length + 1 < 32 then { f with kids := f.kids ++ [n] } else f) :: r
def zN : Nd := .mk tk0 []
def endS : Nat → List Fr → Nd
  | 0, _ => zN
  | _ + 1, [] => zN
  | _ + 1, [f] => ndOf f
  | k + 1, f :: g :: r => endS k (putT (ndOf f) (g :: r))
def clB (t : Tk) (f : Fr) : Bool := decide (t.kind = 20) && decide (t.text = f.en)
def oneS : List Tk → List Fr → Nat → Nd × Nat
  | [], st, a => (endS st.length st, a)
  | t :: ts, st, a =>
    if opB t = true then oneS ts (⟨t, [], clF t⟩ :: st) (a + 1)
    else match st with
      | [] => (.mk t [], a + 1)
      | f :: r => if clB t f = true then (match r with
          | [] => (ndOf f, a + 1)
          | g :: q => oneS ts (putT (ndOf f) (g :: q)) (a + 1))
        else oneS ts (putT (.mk t []) (f :: r)) (a + 1)
theorem oneS_open {t : Tk} {ts : List Tk} {st : List Fr} {a : Nat} (h : opB t = true) : oneS (t :: ts) st a = oneS ts (⟨t, [], clF t⟩ :: st) (a + 1) := by
  rw [oneS.eq_def]; dsimp only; rw [if_pos h]
theorem oneS_leaf {t : Tk} {ts : List Tk} {a : Nat} (h : opB t = false) : oneS (t :: ts) [] a = (.mk t [], a + 1) := by
  rw [oneS.eq_def]; dsimp only; rw [if_neg (by rw [h]; decide)]
theorem oneS_in {t : Tk} {ts : List Tk} {f : Fr} {r : List Fr} {a : Nat} (h : opB t = false) (hc : clB t f = false) : oneS (t :: ts) (f :: r) a = oneS ts (putT (.mk t []) (f :: r)) (a + 1) := by
  rw [oneS.eq_def]; dsimp only; rw [if_neg (by rw [h]; decide), if_neg (by rw [hc]; decide)]
theorem oneS_cl1 {t : Tk} {ts : List Tk} {f : Fr} {a : Nat} (h : opB t = false) (hc : clB t f = true) : oneS (t :: ts) [f] a = (ndOf f, a + 1) := by
  rw [oneS.eq_def]; dsimp only; rw [if_neg (by rw [h]; decide), if_pos hc]
theorem oneS_cl2 {t : Tk} {ts : List Tk} {f g : Fr} {q : List Fr} {a : Nat} (h : opB t = false) (hc : clB t f = true) : oneS (t :: ts) (f :: g :: q) a = oneS ts (putT (ndOf f) (g :: q)) (a + 1) := by
  rw [oneS.eq_def]; dsimp only; rw [if_neg (by rw [h]; decide), if_pos hc]
def stM (nb : AB) : List Fr → List AB
  | [] => [nb, .row 0 99 8 []]
  | f :: r => oneM nb (r.reverse ++ [f])
structure ES (N0 : Nd) (b k0 : Nat) where
  st : List Fr
  hs : st.length ≤ k0
  hk : ∀ f ∈ st, f.kids.length ≤ b + (k0 - st.length)
  eq : st = [] ∨ endS st.length st = N0
def esM (N0 : Nd) : List Fr → List AB
  | [] => oneM (.box 49 (ncl (.mk N0.tok N0.kids))) []
  | f :: r => oneM nbA (r.reverse ++ [f])
structure OS (L : List Tk) (a0 : Nat) where
  st : List Fr
  a : Nat
  h0 : st = [] → a < L.length
  ha : a ≤ L.length
  hs : st.length ≤ a
  hk : ∀ f ∈ st, f.kids.length ≤ a
  eq : oneS (L.drop a) st a = oneS (L.drop a0) [] a0
theorem ret2c {P : Program} {fn : Func} {r1 r2 x y : AV} {e : Exit} {M : List AB} {F : List (Nat × AV)} {t u : Tmp} {ty : TypeId} {te : TE} {i off e' : Nat} {cells : List AV} {tab : List (Nat × TE)} (ht : TyTab P tab) (he : e = .normal ∨ e = .ret) (hr : fn.results.toList = [.cell t ty, .tmp u]) (hte : tget tab ty = some te)
    (hp : look F t = .ptr i off) (hM : M[i]? = some (.box e' cells)) (hx : loadAV te (cells.drop off) = some x) (hy : nf (look F u) = some y) (hf : (x.free && y.free) = true) (h : Sub x r1) (k : Sub y r2) : retQ P fn (.tup [r1, r2]) e ⟨M, F⟩ := by
  rw [Bool.and_eq_true] at hf
  refine ⟨he, [x, y], by rw [hr]; exact .cons (.cell (ht.get hte) hp hM hx hf.1) (.cons (.tmp (by rw [nf_eq hy]; exact Sub.refl _) hf.2) .nil), ?_⟩
  rintro M β w imm v ⟨cs, h1, ⟨v1, r, e1, s1, v2, r', e2, s2, s3⟩⟩
  exact ⟨cs, h1, v1, r, e1, h _ _ _ _ _ s1, v2, r', e2, k _ _ _ _ _ s2, s3⟩
set_option maxHeartbeats 4000000 in
theorem one_in (L : List Tk) (a0 : Nat) (hL : L.length ≤ 549755813888) (ha0 : a0 < L.length) : PCalls Tryz.prog 51 [.sl 6 (L.map tD), .val (.int .i64 a0)] (.tup [nA (oneS (L.drop a0) [] a0).1, .val (.int .i64 (oneS (L.drop a0) [] a0).2)]) := by
  refine p_start Tryz.func51 Tryz.ntmps51 rfl rfl rfl fun S w => ?_
  have hlm : (L.map tD).length = L.length := List.length_map _
  repeat (first | refine awp_seq ?_ | refine thenA_normal ?_ | refine a_region ?_ | refine r_done ?_ | (refine r_id ?_; first | refine r_ev tab_ok rfl rfl rfl rfl byE rfl ?_ | refine r_wr tab_ok rfl rfl rfl rfl rfl ?_ | refine r_len_cnd tab_ok rfl rfl rfl rfl rfl rfl (by first | exact fun _ => rfl | exact cs1) rfl rfl rfl ?_ | refine r_ev_cnd tab_ok rfl rfl rfl rfl rfl rfl byC (by first | exact fun _ => trivial | (intro h; simp at h; first | exact ⟨by omega, by omega⟩ | omega)) rfl ?_ | refine r_or rfl rfl rfl rfl rfl rfl rfl rfl ?_))
  refine awp_cond rfl (fun h => ?_) (fun h => ?_)
  · simp at h
    omega
  repeat (first | refine awp_seq ?_ | refine awp_block ?_ | refine a_region ?_ | refine awp_skip ?_ | refine r_done ?_ | (refine r_id ?_; first | refine r_ev tab_ok rfl rfl rfl rfl byE rfl ?_))
  refine a_loop (σ := OS L a0) (fun x => stM nbA x.st) (fun x => [(0, .sl 6 (L.map tD)), (1, .val (.int .i64 x.a)), (4, .ptr 0 0), (6, .row 1 0)]) (fun x => L.length - x.a) ⟨[], a0, fun _ => ha0, by omega, Nat.zero_le _, by simp, rfl⟩ (fits_conv byV ⟨c_sub rfl (Sub.refl _) rfl, c_sub rfl (Sub.refl _) rfl, c_ptr rfl rfl rfl rfl, c_nil rfl rfl, trivial⟩) ?_
  rintro ⟨st, a, h0, ha, hs, hk, heq⟩
  dsimp only
  rcases st with _ | ⟨f, r⟩
  · dsimp only [stM]
    repeat (first | refine awp_seq ?_ | refine thenA_normal ?_ | refine a_region ?_ | refine r_done ?_ | (refine r_id ?_; first | refine r_len tab_ok rfl rfl rfl rfl rfl rfl rfl ?_ | refine r_ev tab_ok rfl rfl rfl rfl byE rfl ?_))
    refine awp_cond_p rfl (fun hlt => ?_) (fun hge => ?_)
    · have hlt' : a < L.length := by omega
      have hi' : ((a : Nat) : Int).toNat < L.length := by simp only [Int.toNat_natCast]; exact hlt'
      rw [List.drop_eq_getElem_cons hlt'] at heq
      repeat (first | refine awp_seq ?_ | refine awp_block ?_ | refine a_region ?_ | refine awp_skip ?_ | (refine r_id ?_; first | refine r_ev tab_ok rfl rfl rfl rfl byE rfl ?_ | refine r_idx tab_ok rfl rfl rfl rfl rfl rfl rfl (by first | exact ⟨by omega, by omega⟩ | (simp; omega)) rfl rfl ?_))
      refine r_call (opens_ok (L[((a : Nat) : Int).toNat]'hi')) call62 rfl rfl ⟨Sub.refl _, trivial⟩ rfl rfl rfl rfl ?_
      repeat (first | refine thenA_normal ?_ | refine r_done ?_)
      refine awp_cond rfl (fun ho => ?_) (fun ho => ?_)
      · simp only [Int.toNat_natCast] at ho
        rw [oneS_open ho] at heq
        repeat (first | refine awp_seq ?_)
        refine a_draw rfl (List.replicate 13 1 ++ [2, 1]) (by kernel_rfl) ?_
        repeat (first | (refine r_id ?_; first | refine r_ev tab_ok rfl rfl rfl rfl byE rfl ?_ | refine r_idx tab_ok rfl rfl rfl rfl rfl rfl rfl (by first | exact ⟨by omega, by omega⟩ | (simp; omega)) rfl rfl ?_ | refine r_build tab_ok rfl rfl rfl rfl rfl rfl ?_))
        refine r_call (closer_ok (L[((a : Nat) : Int).toNat]'hi')) call63 rfl rfl ⟨Sub.refl _, trivial⟩ rfl rfl rfl rfl ?_
        repeat (first | (refine r_id ?_; first | refine r_build tab_ok rfl rfl rfl rfl rfl rfl ?_ | refine r_built tab_ok rfl rfl rfl rfl rfl rfl rfl rfl rfl ?_))
        refine r_append tab_ok rfl rfl rfl rfl rfl rfl rfl rfl rfl (by show (0 + 1) * 80 ≤ 140737488355328; decide) rfl ?_
        repeat (first | refine thenA_normal ?_ | refine a_region ?_ | refine awp_exit ?_ | refine r_done ?_ | refine r_done' ?_ | (refine r_id ?_; first | refine r_ev tab_ok rfl rfl rfl rfl byE rfl ?_))
        exact ⟨⟨[⟨L[a], [], clF L[a]⟩], a + 1, (fun h => by cases h), hlt', by simp, by simp, heq⟩, by dsimp only; omega, fits_trans (fits_open (i := 1) rfl) (fits_conv byV byV)⟩
      · simp only [Int.toNat_natCast] at ho
        rw [oneS_leaf ho] at heq
        repeat (first | refine awp_seq ?_ | refine thenA_normal ?_ | refine a_region ?_ | refine a_draw1 mixed_ok (by kernel_rfl) ?_ | refine awp_ret ?_ | refine thenA_ret ?_ | refine blockA_ret ?_ | refine awp_skip ?_ | refine r_done ?_ | refine r_done' ?_ | (refine r_id ?_; first | refine r_ev tab_ok rfl rfl rfl rfl byE rfl ?_ | refine r_ld tab_ok rfl rfl rfl rfl rfl ?_ | refine r_idx tab_ok rfl rfl rfl rfl rfl rfl rfl (by first | exact ⟨by omega, by omega⟩ | (simp; omega)) rfl rfl ?_ | refine r_st tab_ok rfl rfl rfl rfl ?_ | refine r_ev_cnd tab_ok rfl rfl rfl rfl rfl rfl byC (by first | exact fun _ => trivial | (intro h; simp at h; first | exact ⟨by omega, by omega⟩ | omega)) rfl ?_ | refine r_ld_cnd tab_ok rfl rfl rfl rfl rfl rfl byC rfl ?_ | refine r_idx_cnd tab_ok rfl rfl rfl rfl rfl rfl rfl byC rfl rfl (by exact ⟨by omega, by omega⟩) rfl rfl ?_ | refine r_and rfl rfl rfl rfl rfl rfl rfl rfl ?_ | refine r_pick_f rfl rfl rfl rfl rfl rfl rfl ?_ | refine r_off rfl rfl rfl rfl rfl rfl ?_ | refine r_build tab_ok rfl rfl rfl rfl rfl rfl ?_) | refine awp_cond_t rfl ?_ | refine awp_cond_f rfl ?_)
        rw [← heq]
        exact ret2c tab_ok byO rfl rfl rfl rfl rfl rfl rfl (Sub.agg (by repeat' first | exact trivial | exact Sub.refl _ | exact Sub.nil _ | refine Sub.agg ?_ | apply And.intro)) (Sub.refl _)
    · exact absurd (h0 rfl) (by omega)
  · dsimp only [stM]
    obtain ⟨gs, hgs⟩ : ∃ gs, gs = r.reverse := ⟨_, rfl⟩
    have hgl : gs.length = r.length := by rw [hgs, List.length_reverse]
    have hfl : (gs ++ [f]).length = gs.length + 1 := by rw [List.length_append, List.length_singleton]
    have hsl : r.length + 1 ≤ a := hs
    have hcnt : ([] : List D).length + (gs ++ [f]).length = gs.length + 1 := by rw [hfl]; exact Nat.zero_add _
    have hj : ((([] : List D).length + (gs ++ [f]).length : Nat) : Int) - 1 = (gs.length : Int) := by omega
    rw [← hgs]
    repeat (first | refine awp_seq ?_ | refine thenA_normal ?_ | refine a_region ?_ | refine r_done ?_ | (refine r_id ?_; first | refine r_len tab_ok rfl rfl rfl rfl rfl rfl rfl ?_ | refine r_ev tab_ok rfl rfl rfl rfl byE rfl ?_))
    refine awp_cond_p rfl (fun hlt => ?_) (fun hge => ?_)
    · have hlt' : a < L.length := by omega
      have hi' : ((a : Nat) : Int).toNat < L.length := by simp only [Int.toNat_natCast]; exact hlt'
      rw [List.drop_eq_getElem_cons hlt'] at heq
      repeat (first | refine awp_seq ?_ | refine awp_block ?_ | refine a_region ?_ | refine awp_skip ?_ | (refine r_id ?_; first | refine r_ev tab_ok rfl rfl rfl rfl byE rfl ?_ | refine r_idx tab_ok rfl rfl rfl rfl rfl rfl rfl (by first | exact ⟨by omega, by omega⟩ | (simp; omega)) rfl rfl ?_))
      refine r_call (opens_ok (L[((a : Nat) : Int).toNat]'hi')) call62 rfl rfl ⟨Sub.refl _, trivial⟩ rfl rfl rfl rfl ?_
      repeat (first | refine thenA_normal ?_ | refine r_done ?_)
      refine awp_cond rfl (fun ho => ?_) (fun ho => ?_)
      · simp only [Int.toNat_natCast] at ho
        rw [oneS_open ho] at heq
        repeat (first | refine awp_seq ?_)
        refine a_draw rfl (List.replicate 13 1 ++ [2, 1]) (by kernel_rfl) ?_
        repeat (first | (refine r_id ?_; first | refine r_ev tab_ok rfl rfl rfl rfl byE rfl ?_ | refine r_idx tab_ok rfl rfl rfl rfl rfl rfl rfl (by first | exact ⟨by omega, by omega⟩ | (simp; omega)) rfl rfl ?_ | refine r_build tab_ok rfl rfl rfl rfl rfl rfl ?_))
        refine r_call (closer_ok (L[((a : Nat) : Int).toNat]'hi')) call63 rfl rfl ⟨Sub.refl _, trivial⟩ rfl rfl rfl rfl ?_
        repeat (first | (refine r_id ?_; first | refine r_build tab_ok rfl rfl rfl rfl rfl rfl ?_ | refine r_built tab_ok rfl rfl rfl rfl rfl rfl rfl rfl rfl ?_))
        refine r_append_o tab_ok rfl rfl rfl rfl rfl rfl rfl rfl rfl (by rw [hfl]; show (0 + (gs.length + 1) + 1) * 80 ≤ 140737488355328; omega) rfl rfl ?_
        repeat (first | refine thenA_normal ?_ | refine a_region ?_ | refine awp_exit ?_ | refine r_done ?_ | refine r_done' ?_ | (refine r_id ?_; first | refine r_ev tab_ok rfl rfl rfl rfl byE rfl ?_))
        refine ⟨⟨⟨L[a], [], clF L[a]⟩ :: f :: r, a + 1, (fun h => by cases h), hlt', by rw [List.length_cons, List.length_cons]; omega, ?_, heq⟩, by dsimp only; omega, ?_⟩
        · intro f' hf'
          rcases List.mem_cons.1 hf' with rfl | hf'
          · exact Nat.zero_le _
          · exact Nat.le_succ_of_le (hk f' hf')
        · dsimp only [stM]
          rw [List.reverse_cons, ← hgs]
          exact fits_push (gs ++ [f]) ⟨L[a], [], clF L[a]⟩ 2 rfl ⟨c_sub rfl (Sub.refl _) rfl, c_sub rfl (Sub.refl _) rfl, c_ptr rfl rfl rfl rfl, c_ro rfl rfl, trivial⟩
      · simp only [Int.toNat_natCast] at ho
        repeat (first | refine awp_seq ?_ | refine a_region ?_ | refine a_draw1 mixed_ok (by kernel_rfl) ?_ | refine awp_skip ?_ | refine r_done ?_ | (refine r_id ?_; first | refine r_ev tab_ok rfl rfl rfl rfl byE rfl ?_ | refine r_idx tab_ok rfl rfl rfl rfl rfl rfl rfl (by first | exact ⟨by omega, by omega⟩ | (simp; omega)) rfl rfl ?_ | refine r_st tab_ok rfl rfl rfl rfl ?_ | refine r_ev_cnd tab_ok rfl rfl rfl rfl rfl rfl byC (by first | exact fun _ => trivial | (intro h; simp at h; first | exact ⟨by omega, by omega⟩ | omega)) rfl ?_ | refine r_idx_cnd tab_ok rfl rfl rfl rfl rfl rfl rfl byC rfl rfl (by exact ⟨by omega, by omega⟩) rfl rfl ?_ | refine r_and rfl rfl rfl rfl rfl rfl rfl rfl ?_ | refine r_build tab_ok rfl rfl rfl rfl rfl rfl ?_) | refine r_len_o tab_ok rfl rfl rfl rfl rfl rfl rfl rfl ?_ | refine r_len_o_cnd tab_ok rfl rfl rfl rfl rfl rfl (fun _ => rfl) (by first | exact fun _ => rfl | exact cs1 | exact cs2) rfl rfl rfl ?_)
        refine r_idx_o_cnd tab_ok rfl rfl rfl rfl rfl rfl (fun _ => rfl) rfl (by first | exact fun _ => rfl | exact cs1 | exact cs2) rfl rfl (fun _ => by omega) (fun _ => by omega) rfl ?_
        repeat (first | refine r_field_o_cnd tab_ok rfl rfl rfl rfl rfl rfl (fun _ => rfl) (by first | exact fun _ => rfl | exact cs1 | exact cs2) rfl rfl rfl ?_)
        refine r_ld_o_cnd (out := .val (.string f.en)) tab_ok rfl rfl rfl rfl rfl rfl (fun _ => rfl) (o' := gs.length * 8 + 7) (fun _ => by rw [hj]; simp) (fun _ => by rw [frCs_end]; rfl) (by first | exact fun _ => rfl | exact cs1 | exact cs2) rfl rfl rfl ?_
        repeat (first | refine thenA_normal ?_ | refine r_done' ?_ | (refine r_id ?_; first | refine r_ev_cnd tab_ok rfl rfl rfl rfl rfl rfl byC (by first | exact fun _ => trivial | (intro h; simp at h; first | exact ⟨by omega, by omega⟩ | omega)) rfl ?_ | refine r_and rfl rfl rfl rfl rfl rfl rfl rfl ?_))
        refine awp_cond rfl (fun hc => ?_) (fun hc => ?_)
        · simp only [Int.toNat_natCast] at hc
          have hcl : clB L[a] f = true := by
            have hp : decide (0 < ((([] : List D).length + (gs ++ [f]).length : Nat) : Int)) = true := by rw [decide_eq_true_eq]; omega
            rw [hp, Bool.true_and] at hc
            exact hc
          have hkf := hk f List.mem_cons_self
          refine a_draw rfl [1, 1, 1, 1, 1, 1, 1, 0, 0, 8, 0, 8, 7, 0] (by kernel_rfl) ?_
          repeat (first | (refine r_id ?_; first | refine r_ev tab_ok rfl rfl rfl rfl byE rfl ?_) | refine r_len_o tab_ok rfl rfl rfl rfl rfl rfl rfl rfl ?_)
          refine r_idx_o tab_ok rfl rfl rfl rfl rfl rfl rfl rfl (by omega) (by omega) rfl ?_
          repeat (first | refine r_field_o tab_ok rfl rfl rfl rfl rfl rfl rfl rfl ?_)
          refine r_ld_o tab_ok rfl rfl rfl rfl rfl (o' := gs.length * 8) (by rw [hj]; simp) (by rw [frCs_node]; rfl) rfl rfl rfl ?_
          repeat (first | (refine r_id ?_; first | refine r_ev tab_ok rfl rfl rfl rfl byE rfl ?_))
          refine r_by8 (fun M2 h2 => astep_len_o tab_ok rfl rfl rfl (at_drop1 0 h2 rfl)) rfl rfl rfl rfl rfl ?_
          repeat (first | (refine r_id ?_; first | refine r_ev tab_ok rfl rfl rfl rfl byE rfl ?_))
          refine r_by8 (fun M2 h2 => astep_pfx_o tab_ok rfl rfl rfl (at_drop1 0 h2 rfl) rfl (m := gs.length) (by rw [hj]; simp) (by omega)) rfl rfl rfl rfl rfl ?_
          refine r_by7n (astep_store tab_ok rfl rfl rfl rfl (by
            have hfr := freshTop (.box 49 [.val (.int .i64 (L[((a : Nat) : Int).toNat]'hi').kind), .val (.string (L[((a : Nat) : Int).toNat]'hi').text), .val (.int .i64 (L[((a : Nat) : Int).toNat]'hi').int), .val (.bool (L[((a : Nat) : Int).toNat]'hi').whole), .val (.bool (L[((a : Nat) : Int).toNat]'hi').sign), .val (.bool (L[((a : Nat) : Int).toNat]'hi').id), .val (.slice none 0 0)]) gs f
            show (true && (true && (true && (true && (true && (true && (freshRow (oneM (.box 49 [.val (.int .i64 (L[((a : Nat) : Int).toNat]'hi').kind), .val (.string (L[((a : Nat) : Int).toNat]'hi').text), .val (.int .i64 (L[((a : Nat) : Int).toNat]'hi').int), .val (.bool (L[((a : Nat) : Int).toNat]'hi').whole), .val (.bool (L[((a : Nat) : Int).toNat]'hi').sign), .val (.bool (L[((a : Nat) : Int).toNat]'hi').id), .val (.slice none 0 0)]) (gs ++ [f])) (2 + gs.length) 0 && true))))))) = true
            rw [hfr]
            rfl) rfl rfl) (drop1_set _ _) rfl rfl rfl ?_
          repeat (first | refine awp_seq ?_ | refine r_done' ?_ | (refine r_id ?_; first | refine r_ev tab_ok rfl rfl rfl rfl byE rfl ?_))
          refine awp_fits (s' := ⟨oneM (.box 49 (ncl (.mk f.tok f.kids))) gs, [(0, .sl 6 (L.map tD)), (1, .val (.int .i64 a)), (4, .ptr 0 0), (6, .row 1 0)]⟩) (fits_trans (fits_cut (i := 1) (d := 6) (m := gs.length) (pre := []) rfl rfl (by omega)) (fits_pop gs f (fun M M' h0 h1 h2 h3 => ⟨c_sub rfl (Sub.refl _) rfl, c_sub rfl (Sub.refl _) rfl, c_ptr h0 rfl h2 rfl, c_ro h1 h3, trivial⟩) ⟨⟨rfl, Sub.refl _⟩, ⟨rfl, Sub.refl _⟩, ⟨rfl, Sub.refl _⟩, ⟨rfl, Sub.refl _⟩, trivial⟩)) ?_
          rcases r with _ | ⟨g, q⟩
          · have hg0 : gs = [] := hgs
            subst hg0
            rw [oneS_cl1 ho hcl] at heq
            repeat (first | refine awp_seq ?_ | refine thenA_normal ?_ | refine a_region ?_ | refine awp_ret ?_ | refine thenA_ret ?_ | refine blockA_ret ?_ | refine r_done ?_ | (refine r_id ?_; first | refine r_ev tab_ok rfl rfl rfl rfl byE rfl ?_ | refine r_ld tab_ok rfl rfl rfl rfl rfl ?_ | refine r_st tab_ok rfl rfl rfl rfl ?_) | refine awp_cond_t rfl ?_ | refine r_len_o tab_ok rfl rfl rfl rfl rfl rfl rfl rfl ?_)
            rw [← heq]
            exact ret2c tab_ok byO rfl rfl rfl rfl rfl rfl rfl (Sub.refl _) (Sub.refl _)
          · rw [oneS_cl2 ho hcl] at heq
            have hgr : gs = q.reverse ++ [g] := by rw [hgs, List.reverse_cons]
            obtain ⟨qs, hqs⟩ : ∃ qs, qs = q.reverse := ⟨_, rfl⟩
            have hql : qs.length = q.length := by rw [hqs, List.length_reverse]
            rw [← hqs] at hgr
            subst hgr
            have hqf : (qs ++ [g]).length = qs.length + 1 := by rw [List.length_append, List.length_singleton]
            have hkg := hk g (List.mem_cons_of_mem _ List.mem_cons_self)
            repeat (first | refine thenA_normal ?_ | refine a_region ?_ | refine r_done ?_ | (refine r_id ?_; first | refine r_ev tab_ok rfl rfl rfl rfl byE rfl ?_) | refine r_len_o tab_ok rfl rfl rfl rfl rfl rfl rfl rfl ?_)
            refine awp_cond_p rfl (fun h0 => ?_) (fun h0 => ?_)
            · exact absurd h0 (by rw [hqf]; omega)
            repeat (first | refine thenA_normal ?_ | refine a_region ?_ | refine awp_skip ?_ | (refine r_id ?_; first | refine r_ev tab_ok rfl rfl rfl rfl byE rfl ?_ | refine r_ld tab_ok rfl rfl rfl rfl rfl ?_))
            refine r_mcall_all (put_ok (.box 49 (ncl (.mk f.tok f.kids))) qs g (.mk f.tok f.kids) rfl (by omega) (by omega)) call64 rfl rfl ⟨Sub.refl _, Sub.agg (by repeat' first | exact trivial | exact Sub.refl _ | exact Sub.nil _ | refine Sub.agg ?_ | apply And.intro), trivial⟩ rfl rfl rfl rfl ?_
            repeat (first | refine thenA_normal ?_ | refine a_region ?_ | refine r_done ?_ | (refine r_id ?_; first | refine r_ev tab_ok rfl rfl rfl rfl byE rfl ?_))
            refine ⟨⟨putT (ndOf f) (g :: q), a + 1, (fun h => by cases h), hlt', by rw [putT, List.length_cons]; rw [List.length_cons] at hsl; omega, ?_, heq⟩, by dsimp only; omega, ?_⟩
            · intro f' hf'
              rw [putT] at hf'
              rcases List.mem_cons.1 hf' with rfl | hf'
              · split
                · dsimp only
                  rw [List.length_append, List.length_singleton]
                  omega
                · omega
              · exact Nat.le_succ_of_le (hk f' (List.mem_cons_of_mem _ (List.mem_cons_of_mem _ hf')))
            · dsimp only [stM, putT]
              rw [← hqs, ← hql]
              exact fits_put _ _ _ _ _ _ _ qs g (ndOf f) (fun M M' h1 h2 h3 h4 => ⟨c_sub rfl (Sub.refl _) rfl, c_sub rfl (Sub.refl _) rfl, c_ptr h2 rfl h3 rfl, c_ro h1 h4, trivial⟩)
        · simp only [Int.toNat_natCast] at hc
          have hcl : clB L[a] f = false := by
            have hp : decide (0 < ((([] : List D).length + (gs ++ [f]).length : Nat) : Int)) = true := by rw [decide_eq_true_eq]; omega
            rw [hp, Bool.true_and] at hc
            exact hc
          rw [oneS_in ho hcl] at heq
          have hkf := hk f List.mem_cons_self
          repeat (first | refine awp_seq ?_ | refine thenA_normal ?_ | refine a_region ?_ | refine awp_skip ?_ | refine r_done ?_ | (refine r_id ?_; first | refine r_ev tab_ok rfl rfl rfl rfl byE rfl ?_) | refine r_len_o tab_ok rfl rfl rfl rfl rfl rfl rfl rfl ?_)
          refine awp_cond_p rfl (fun h0 => ?_) (fun h0 => ?_)
          · exact absurd h0 (by omega)
          repeat (first | refine thenA_normal ?_ | refine a_region ?_ | refine awp_skip ?_ | (refine r_id ?_; first | refine r_ev tab_ok rfl rfl rfl rfl byE rfl ?_ | refine r_ld tab_ok rfl rfl rfl rfl rfl ?_))
          refine r_mcall_all (put_ok (.box 49 [.val (.int .i64 (L[((a : Nat) : Int).toNat]'hi').kind), .val (.string (L[((a : Nat) : Int).toNat]'hi').text), .val (.int .i64 (L[((a : Nat) : Int).toNat]'hi').int), .val (.bool (L[((a : Nat) : Int).toNat]'hi').whole), .val (.bool (L[((a : Nat) : Int).toNat]'hi').sign), .val (.bool (L[((a : Nat) : Int).toNat]'hi').id), .val (.slice none 0 0)]) gs f (.mk (L[((a : Nat) : Int).toNat]'hi') []) rfl (by omega) (by omega)) call64 rfl rfl ⟨Sub.refl _, Sub.agg (by repeat' first | exact trivial | exact Sub.refl _ | exact Sub.nil _ | refine Sub.agg ?_ | apply And.intro), trivial⟩ rfl rfl rfl rfl ?_
          repeat (first | refine thenA_normal ?_ | refine a_region ?_ | refine r_done ?_ | (refine r_id ?_; first | refine r_ev tab_ok rfl rfl rfl rfl byE rfl ?_))
          refine ⟨⟨putT (.mk L[a] []) (f :: r), a + 1, (fun h => by cases h), hlt', by rw [putT, List.length_cons]; omega, ?_, heq⟩, by dsimp only; omega, ?_⟩
          · intro f' hf'
            rw [putT] at hf'
            rcases List.mem_cons.1 hf' with rfl | hf'
            · split
              · dsimp only
                rw [List.length_append, List.length_singleton]
                omega
              · omega
            · exact Nat.le_succ_of_le (hk f' (List.mem_cons_of_mem _ hf'))
          · dsimp only [stM, putT]
            rw [← hgs, ← hgl]
            exact fits_put _ _ _ _ _ _ _ gs f (.mk L[a] []) (fun M M' h1 h2 h3 h4 => ⟨c_sub rfl (Sub.refl _) rfl, c_sub rfl (Sub.refl _) rfl, c_ptr h2 rfl h3 rfl, c_ro h1 h4, trivial⟩)
    · have ea : a = L.length := by omega
      have hd0 : L.drop a = [] := List.drop_of_length_le (by omega)
      rw [hd0, oneS] at heq
      obtain ⟨N0, hN0⟩ : ∃ N0, N0 = endS (f :: r).length (f :: r) := ⟨_, rfl⟩
      rw [← hN0] at heq
      rw [← heq]
      repeat (first | refine awp_seq ?_ | refine awp_block ?_ | refine awp_exit ?_)
      refine a_loop (σ := ES N0 a (f :: r).length) (fun x => esM N0 x.st) (fun x => [(1, .val (.int .i64 a)), (4, .ptr 0 0), (6, .row 1 0)]) (fun x => x.st.length) ⟨f :: r, Nat.le_refl _, fun f' hf' => Nat.le_trans (hk f' hf') (Nat.le_add_right _ _), .inr hN0.symm⟩ (by dsimp only [esM]; rw [← hgs]; exact fits_of rfl ⟨Sub.refl _, Sub.refl _, Sub.refl _, trivial⟩) ?_
      have hk0 : (f :: r).length ≤ a := hs
      generalize (f :: r).length = k0 at hk0 ⊢
      clear hN0 hk hs h0 heq hgs hgl hfl hsl hcnt hj
      clear gs
      rintro ⟨st, hs, hk, heq⟩
      dsimp only
      rcases st with _ | ⟨f, r⟩
      · dsimp only [esM]
        repeat (first | refine awp_seq ?_ | refine thenA_normal ?_ | refine a_region ?_ | refine awp_ret ?_ | refine awp_exit ?_ | refine r_done ?_ | (refine r_id ?_; first | refine r_ev tab_ok rfl rfl rfl rfl byE rfl ?_ | refine r_ld tab_ok rfl rfl rfl rfl rfl ?_ | refine r_st tab_ok rfl rfl rfl rfl ?_) | refine awp_cond_f rfl ?_ | refine r_len_o tab_ok rfl rfl rfl rfl rfl rfl rfl rfl ?_)
        exact ret2c tab_ok byO rfl rfl rfl rfl rfl rfl rfl (Sub.of_eq (by cases N0; rfl)) (Sub.refl _)
      · dsimp only [esM]
        obtain ⟨gs, hgs⟩ : ∃ gs, gs = r.reverse := ⟨_, rfl⟩
        have hgl : gs.length = r.length := by rw [hgs, List.length_reverse]
        have hfl : (gs ++ [f]).length = gs.length + 1 := by rw [List.length_append, List.length_singleton]
        have hsl : r.length + 1 ≤ k0 := hs
        have hcnt : ([] : List D).length + (gs ++ [f]).length = gs.length + 1 := by rw [hfl]; exact Nat.zero_add _
        have hj : ((([] : List D).length + (gs ++ [f]).length : Nat) : Int) - 1 = (gs.length : Int) := by omega
        have hkf := hk f List.mem_cons_self
        rw [List.length_cons] at hkf
        rw [← hgs]
        repeat (first | refine awp_seq ?_ | refine thenA_normal ?_ | refine a_region ?_ | refine r_done ?_ | (refine r_id ?_; first | refine r_ev tab_ok rfl rfl rfl rfl byE rfl ?_) | refine r_len_o tab_ok rfl rfl rfl rfl rfl rfl rfl rfl ?_)
        refine awp_cond_p rfl (fun h1 => ?_) (fun h1 => ?_)
        · repeat (first | refine awp_seq ?_ | refine thenA_normal ?_ | refine awp_block ?_ | refine awp_skip ?_)
          refine a_draw rfl [1, 1, 1, 1, 1, 1, 1, 0, 0, 8, 0, 8, 7, 0] (by kernel_rfl) ?_
          repeat (first | (refine r_id ?_; first | refine r_ev tab_ok rfl rfl rfl rfl byE rfl ?_) | refine r_len_o tab_ok rfl rfl rfl rfl rfl rfl rfl rfl ?_)
          refine r_idx_o tab_ok rfl rfl rfl rfl rfl rfl rfl rfl (by omega) (by omega) rfl ?_
          repeat (first | refine r_field_o tab_ok rfl rfl rfl rfl rfl rfl rfl rfl ?_)
          refine r_ld_o tab_ok rfl rfl rfl rfl rfl (o' := gs.length * 8) (by rw [hj]; simp) (by rw [frCs_node]; rfl) rfl rfl rfl ?_
          repeat (first | (refine r_id ?_; first | refine r_ev tab_ok rfl rfl rfl rfl byE rfl ?_))
          refine r_by8 (fun M2 h2 => astep_len_o tab_ok rfl rfl rfl (at_drop1 0 h2 rfl)) rfl rfl rfl rfl rfl ?_
          repeat (first | (refine r_id ?_; first | refine r_ev tab_ok rfl rfl rfl rfl byE rfl ?_))
          refine r_by8 (fun M2 h2 => astep_pfx_o tab_ok rfl rfl rfl (at_drop1 0 h2 rfl) rfl (m := gs.length) (by rw [hj]; simp) (by omega)) rfl rfl rfl rfl rfl ?_
          refine r_by7n (astep_store tab_ok rfl rfl rfl rfl (by
            have hfr := freshTop nbA gs f
            show (true && (true && (true && (true && (true && (true && (freshRow (oneM nbA (gs ++ [f])) (2 + gs.length) 0 && true))))))) = true
            rw [hfr]
            rfl) rfl rfl) (drop1_set _ _) rfl rfl rfl ?_
          repeat (first | refine thenA_normal ?_ | refine r_done' ?_ | (refine r_id ?_; first | refine r_ev tab_ok rfl rfl rfl rfl byE rfl ?_))
          refine awp_fits (s' := ⟨oneM (.box 49 (ncl (.mk f.tok f.kids))) gs, [(1, .val (.int .i64 a)), (4, .ptr 0 0), (6, .row 1 0)]⟩) (fits_trans (fits_cut (i := 1) (d := 6) (m := gs.length) (pre := []) rfl rfl (by omega)) (fits_pop gs f (fun M M' h0 h1 h2 h3 => ⟨c_sub rfl (Sub.refl _) rfl, c_ptr h0 rfl h2 rfl, c_ro h1 h3, trivial⟩) ⟨⟨rfl, Sub.refl _⟩, ⟨rfl, Sub.refl _⟩, ⟨rfl, Sub.refl _⟩, trivial⟩)) ?_
          rcases r with _ | ⟨g, q⟩
          · have hg0 : gs = [] := hgs
            subst hg0
            have hN : N0 = ndOf f := by
              rcases heq with h | h
              · cases h
              · exact h.symm
            repeat (first | refine a_region ?_ | (refine r_id ?_; first | refine r_ev tab_ok rfl rfl rfl rfl byE rfl ?_ | refine r_ld tab_ok rfl rfl rfl rfl rfl ?_))
            refine r_mcall_all (put_ok0 (.box 49 (ncl (.mk f.tok f.kids))) (.mk f.tok f.kids) rfl) call64 rfl rfl ⟨Sub.refl _, Sub.agg (by repeat' first | exact trivial | exact Sub.refl _ | exact Sub.nil _ | refine Sub.agg ?_ | apply And.intro), trivial⟩ rfl rfl rfl rfl ?_
            repeat (first | refine thenA_normal ?_ | refine blockA_normal ?_ | refine r_done ?_)
            refine ⟨⟨[], Nat.zero_le _, (fun _ h => by cases h), .inl rfl⟩, by dsimp only; rw [List.length_cons]; exact Nat.succ_pos _, ?_⟩
            dsimp only [esM]
            rw [hN]
            exact fits_of rfl ⟨Sub.refl _, Sub.refl _, Sub.refl _, trivial⟩
          · have hgr : gs = q.reverse ++ [g] := by rw [hgs, List.reverse_cons]
            obtain ⟨qs, hqs⟩ : ∃ qs, qs = q.reverse := ⟨_, rfl⟩
            have hql : qs.length = q.length := by rw [hqs, List.length_reverse]
            rw [← hqs] at hgr
            subst hgr
            have hqf : (qs ++ [g]).length = qs.length + 1 := by rw [List.length_append, List.length_singleton]
            have hkg := hk g (List.mem_cons_of_mem _ List.mem_cons_self)
            rw [List.length_cons, List.length_cons] at hkg
            rw [List.length_cons] at hsl hkf
            have hN : endS (putT (ndOf f) (g :: q)).length (putT (ndOf f) (g :: q)) = N0 := by
              rcases heq with h | h
              · cases h
              · exact h
            repeat (first | refine a_region ?_ | (refine r_id ?_; first | refine r_ev tab_ok rfl rfl rfl rfl byE rfl ?_ | refine r_ld tab_ok rfl rfl rfl rfl rfl ?_))
            refine r_mcall_all (put_ok (.box 49 (ncl (.mk f.tok f.kids))) qs g (.mk f.tok f.kids) rfl (by omega) (by omega)) call64 rfl rfl ⟨Sub.refl _, Sub.agg (by repeat' first | exact trivial | exact Sub.refl _ | exact Sub.nil _ | refine Sub.agg ?_ | apply And.intro), trivial⟩ rfl rfl rfl rfl ?_
            repeat (first | refine thenA_normal ?_ | refine blockA_normal ?_ | refine r_done ?_)
            refine ⟨⟨putT (ndOf f) (g :: q), by rw [putT, List.length_cons]; omega, ?_, .inr hN⟩, by dsimp only; rw [putT, List.length_cons, List.length_cons, List.length_cons]; omega, ?_⟩
            · intro f' hf'
              rw [putT] at hf' ⊢
              rw [List.length_cons]
              rcases List.mem_cons.1 hf' with rfl | hf'
              · split
                · dsimp only
                  rw [List.length_append, List.length_singleton]
                  omega
                · omega
              · have := hk f' (List.mem_cons_of_mem _ (List.mem_cons_of_mem _ hf'))
                rw [List.length_cons, List.length_cons] at this
                omega
            · dsimp only [esM, putT]
              rw [← hqs, ← hql]
              exact fits_put _ _ _ _ _ _ _ qs g (ndOf f) (fun M M' h1 h2 h3 h4 => ⟨c_sub rfl (Sub.refl _) rfl, c_ptr h2 rfl h3 rfl, c_ro h1 h4, trivial⟩)
        · exact absurd h1 (by omega)
end Go.Proofs.YtiolnmfaeenlmaaGreatDoor

/- nest: One and All: sizes and places. -/
namespace Go.Proofs.YtiolnmfaeenlmaaGreatDoor
open Go Go.RowKit
set_option maxRecDepth 20000

theorem putT_ne {n : Nd} {st : List Fr} (h : st ≠ []) : putT n st ≠ [] := by
  cases st with
  | nil => exact h
  | cons f r => rw [putT]; exact List.cons_ne_nil _ _
theorem oneS_next : ∀ (ts : List Tk) (st : List Fr) (a : Nat), a ≤ (oneS ts st a).2 ∧ (oneS ts st a).2 ≤ a + ts.length ∧ (ts ≠ [] → a < (oneS ts st a).2) := by
  intro ts
  induction ts with
  | nil => intro st a; rw [oneS]; exact ⟨Nat.le_refl _, Nat.le_refl _, fun h => absurd rfl h⟩
  | cons t ts ih =>
    intro st a
    have lift : ∀ st', a ≤ (oneS ts st' (a + 1)).2 ∧ (oneS ts st' (a + 1)).2 ≤ a + (t :: ts).length ∧ (t :: ts ≠ [] → a < (oneS ts st' (a + 1)).2) := fun st' => by
      have := ih st' (a + 1)
      rw [List.length_cons]
      exact ⟨by omega, by omega, fun _ => by omega⟩
    have one : ∀ n : Nd, a ≤ (n, a + 1).2 ∧ (n, a + 1).2 ≤ a + (t :: ts).length ∧ (t :: ts ≠ [] → a < (n, a + 1).2) := fun n => by
      rw [List.length_cons]
      exact ⟨by dsimp only; omega, by dsimp only; omega, fun _ => by dsimp only; omega⟩
    by_cases ho : opB t = true
    · rw [oneS_open ho]; exact lift _
    · have ho' : opB t = false := by simpa using ho
      cases st with
      | nil => rw [oneS_leaf ho']; exact one _
      | cons f r =>
        by_cases hc : clB t f = true
        · cases r with
          | nil => rw [oneS_cl1 ho' hc]; exact one _
          | cons g q => rw [oneS_cl2 ho' hc]; exact lift _
        · rw [oneS_in ho' (by simpa using hc)]; exact lift _
def szS : List Fr → Nat
  | [] => 0
  | f :: r => 1 + nszs f.kids + szS r
theorem szS_put (n : Nd) (st : List Fr) : szS (putT n st) ≤ szS st + nsz n := by
  cases st with
  | nil => exact Nat.zero_le _
  | cons f r =>
    rw [putT]
    split
    · rw [szS, szS, nszs_append, nszs, nszs]; omega
    · omega
theorem endS_sz : ∀ (k : Nat) (st : List Fr), st ≠ [] → st.length ≤ k → nsz (endS k st) ≤ szS st := by
  intro k
  induction k with
  | zero => intro st h1 h2; cases st with
    | nil => exact absurd rfl h1
    | cons f r => rw [List.length_cons] at h2; omega
  | succ k ih =>
    intro st h1 h2
    match st, h1, h2 with
    | [f], _, _ => rw [endS, ndOf, nsz, szS, szS]; omega
    | f :: g :: r, _, h2 =>
      rw [endS]
      have h3 := szS_put (ndOf f) (g :: r)
      have h4 := ih (putT (ndOf f) (g :: r)) (putT_ne (List.cons_ne_nil _ _)) (by rw [putT, List.length_cons]; rw [List.length_cons, List.length_cons] at h2; omega)
      rw [ndOf, nsz] at h3
      rw [szS]
      rw [ndOf] at h4 ⊢
      omega
theorem oneS_sz : ∀ (ts : List Tk) (st : List Fr) (a : Nat), (ts ≠ [] ∨ st ≠ []) → nsz (oneS ts st a).1 + a ≤ szS st + (oneS ts st a).2 := by
  intro ts
  induction ts with
  | nil =>
    intro st a h
    rw [oneS]
    have := endS_sz st.length st (h.resolve_left (fun h => h rfl)) (Nat.le_refl _)
    dsimp only
    omega
  | cons t ts ih =>
    intro st a _
    by_cases ho : opB t = true
    · rw [oneS_open ho]
      have := ih (⟨t, [], clF t⟩ :: st) (a + 1) (.inr (List.cons_ne_nil _ _))
      rw [szS, nszs] at this
      omega
    · have ho' : opB t = false := by simpa using ho
      cases st with
      | nil => rw [oneS_leaf ho', nsz, nszs]; dsimp only; omega
      | cons f r =>
        by_cases hc : clB t f = true
        · cases r with
          | nil => rw [oneS_cl1 ho' hc, ndOf, nsz, szS]; dsimp only; omega
          | cons g q =>
            rw [oneS_cl2 ho' hc]
            have h1 := ih (putT (ndOf f) (g :: q)) (a + 1) (.inr (putT_ne (List.cons_ne_nil _ _)))
            have h2 := szS_put (ndOf f) (g :: q)
            rw [ndOf, nsz] at h2
            rw [szS]
            rw [ndOf] at h1 ⊢
            omega
        · rw [oneS_in ho' (by simpa using hc)]
          have h1 := ih (putT (.mk t []) (f :: r)) (a + 1) (.inr (putT_ne (List.cons_ne_nil _ _)))
          have h2 := szS_put (.mk t []) (f :: r)
          rw [nsz, nszs] at h2
          omega
def allS (L : List Tk) : Nat → Nat → List Nd
  | 0, _ => []
  | k + 1, a => if a < L.length then (oneS (L.drop a) [] a).1 :: allS L k (oneS (L.drop a) [] a).2 else []
def allA (L : List Tk) (a : Nat) : List Nd := allS L (L.length - a) a
theorem allS_fuel (L : List Tk) : ∀ (k k' a : Nat), L.length - a ≤ k → L.length - a ≤ k' → allS L k a = allS L k' a := by
  intro k
  induction k with
  | zero => intro k' a h1 h2; cases k' with
    | zero => rfl
    | succ k' => rw [allS, allS, if_neg (by omega)]
  | succ k ih =>
    intro k' a h1 h2
    cases k' with
    | zero => rw [allS, allS, if_neg (by omega)]
    | succ k' =>
      rw [allS, allS]
      split
      · rename_i h
        have hn := (oneS_next (L.drop a) [] a).2.2 (by rw [ne_eq, List.drop_eq_nil_iff]; omega)
        rw [ih k' (oneS (L.drop a) [] a).2 (by omega) (by omega)]
      · rfl
theorem one_next {L : List Tk} {a : Nat} (h : a < L.length) : a < (oneS (L.drop a) [] a).2 ∧ (oneS (L.drop a) [] a).2 ≤ L.length := by
  have := oneS_next (L.drop a) [] a
  rw [List.length_drop] at this
  exact ⟨this.2.2 (by rw [ne_eq, List.drop_eq_nil_iff]; omega), by omega⟩
theorem allA_lt {L : List Tk} {a : Nat} (h : a < L.length) : allA L a = (oneS (L.drop a) [] a).1 :: allA L (oneS (L.drop a) [] a).2 := by
  have h1 := one_next h
  obtain ⟨k, hk⟩ : ∃ k, L.length - a = k + 1 := ⟨L.length - a - 1, by omega⟩
  rw [allA, hk, allS, if_pos h, allA, allS_fuel L k (L.length - (oneS (L.drop a) [] a).2) _ (by omega) (by omega)]
theorem allA_ge {L : List Tk} {a : Nat} (h : L.length ≤ a) : allA L a = [] := by
  rw [allA, Nat.sub_eq_zero_of_le h, allS]
theorem allA_sz (L : List Tk) : ∀ (k a : Nat), L.length - a ≤ k → a ≤ L.length → nszs (allA L a) + a ≤ L.length := by
  intro k
  induction k with
  | zero => intro a h1 h2; rw [allA_ge (by omega), nszs]; omega
  | succ k ih =>
    intro a h1 h2
    by_cases h : a < L.length
    · have h3 := one_next h
      rw [allA_lt h, nszs]
      have h4 := oneS_sz (L.drop a) [] a (.inl (by rw [ne_eq, List.drop_eq_nil_iff]; omega))
      rw [szS] at h4
      have h5 := ih (oneS (L.drop a) [] a).2 (by omega) (by omega)
      omega
    · rw [allA_ge (by omega), nszs]; omega
theorem allA_sz0 (L : List Tk) : nszs (allA L 0) ≤ L.length := by
  have := allA_sz L L.length 0 (by omega) (Nat.zero_le _)
  omega
set_option maxHeartbeats 2000000 in
theorem one_out (L : List Tk) (a0 : Nat) (hL : L.length ≤ 549755813888) (ha0 : L.length ≤ a0) (hb : a0 ≤ 1099511627776) : PCalls Tryz.prog 51 [.sl 6 (L.map tD), .val (.int .i64 a0)] (.tup [nA zN, .val (.int .i64 a0)]) := by
  refine p_start Tryz.func51 Tryz.ntmps51 rfl rfl rfl fun S w => ?_
  have hlm : (L.map tD).length = L.length := List.length_map _
  repeat (first | refine awp_seq ?_ | refine thenA_normal ?_ | refine a_region ?_ | refine r_done ?_ | (refine r_id ?_; first | refine r_ev tab_ok rfl rfl rfl rfl byE rfl ?_ | refine r_wr tab_ok rfl rfl rfl rfl rfl ?_ | refine r_len_cnd tab_ok rfl rfl rfl rfl rfl rfl (by first | exact fun _ => rfl | exact cs1) rfl rfl rfl ?_ | refine r_ev_cnd tab_ok rfl rfl rfl rfl rfl rfl byC (by first | exact fun _ => trivial | (intro h; simp at h; first | exact ⟨by omega, by omega⟩ | omega)) rfl ?_ | refine r_or rfl rfl rfl rfl rfl rfl rfl rfl ?_))
  refine awp_cond rfl (fun h => ?_) (fun h => ?_)
  · repeat (first | refine awp_seq ?_ | refine thenA_normal ?_ | refine a_region ?_ | refine awp_ret ?_ | refine thenA_ret ?_ | refine r_done ?_ | (refine r_id ?_; first | refine r_ev tab_ok rfl rfl rfl rfl byE rfl ?_ | refine r_ld tab_ok rfl rfl rfl rfl rfl ?_ | refine r_st tab_ok rfl rfl rfl rfl ?_))
    exact ret2c tab_ok byO rfl rfl rfl rfl rfl rfl rfl (Sub.agg (by repeat' first | exact trivial | exact Sub.refl _ | exact Sub.nil _ | refine Sub.agg ?_ | apply And.intro)) (Sub.refl _)
  · simp at h
    omega
theorem one_ok (L : List Tk) (a0 : Nat) (hL : L.length ≤ 549755813888) (hb : a0 ≤ 1099511627776) : PCalls Tryz.prog 51 [.sl 6 (L.map tD), .val (.int .i64 a0)] (.tup [nA (oneS (L.drop a0) [] a0).1, .val (.int .i64 (oneS (L.drop a0) [] a0).2)]) := by
  by_cases h : a0 < L.length
  · exact one_in L a0 hL h
  · rw [List.drop_eq_nil_iff.2 (by omega), oneS]
    exact one_out L a0 hL (by omega) hb
structure AS_ (L : List Tk) where
  a : Nat
  out : List Nd
  ha : a ≤ L.length
  eq : out ++ allA L a = allA L 0
set_option maxHeartbeats 2000000 in
theorem all_ok (L : List Tk) (hL : L.length ≤ 549755813888) : PCalls Tryz.prog 26 [.sl 6 (L.map tD)] (.sl 7 ((allA L 0).map nF)) := by
  refine p_start Tryz.func26 Tryz.ntmps26 rfl rfl rfl fun S w => ?_
  have hlm : (L.map tD).length = L.length := List.length_map _
  repeat (first | refine awp_seq ?_ | refine thenA_normal ?_ | refine awp_block ?_ | refine a_region ?_ | refine r_done ?_ | (refine r_id ?_; first | refine r_ev tab_ok rfl rfl rfl rfl byE rfl ?_))
  refine a_loop (σ := AS_ L) (fun x => [.row 0 49 7 (x.out.map nF)]) (fun x => [(0, .sl 6 (L.map tD)), (2, .row 0 0), (3, .val (.int .i64 x.a))]) (fun x => L.length - x.a) ⟨0, [], Nat.zero_le _, rfl⟩ (fits_conv byV ⟨c_sub rfl (Sub.refl _) rfl, c_nil rfl rfl, c_sub rfl (Sub.refl _) rfl, trivial⟩) ?_
  rintro ⟨a, out, ha, heq⟩
  dsimp only
  repeat (first | refine awp_seq ?_ | refine thenA_normal ?_ | refine a_region ?_ | refine r_done ?_ | (refine r_id ?_; first | refine r_len tab_ok rfl rfl rfl rfl rfl rfl rfl ?_ | refine r_ev tab_ok rfl rfl rfl rfl byE rfl ?_))
  refine awp_cond_p rfl (fun hlt => ?_) (fun hge => ?_)
  · have hlt' : a < L.length := by omega
    have hnx := one_next hlt'
    have hml : (out.map nF).length = out.length := List.length_map _
    have hol : out.length ≤ L.length := by
      have h1 := nszs_append out (allA L a)
      rw [heq] at h1
      have h2 := allA_sz0 L
      have h3 := nszs_len out
      omega
    rw [allA_lt hlt'] at heq
    repeat (first | refine awp_seq ?_ | refine thenA_normal ?_ | refine awp_block ?_ | refine a_region ?_ | refine awp_skip ?_ | refine r_done ?_ | (refine r_id ?_; first | refine r_ev tab_ok rfl rfl rfl rfl byE rfl ?_ | refine r_wr tab_ok rfl rfl rfl rfl rfl ?_))
    refine r_call (one_ok L a hL (by omega)) call51 rfl rfl ⟨Sub.refl _, Sub.refl _, trivial⟩ rfl rfl rfl rfl ?_
    repeat (first | refine thenA_normal ?_ | refine a_region ?_ | refine blockA_normal ?_ | refine r_done ?_ | (refine r_id ?_; first | refine r_ev tab_ok rfl rfl rfl rfl byE rfl ?_ | refine r_ld tab_ok rfl rfl rfl rfl rfl ?_ | refine r_st tab_ok rfl rfl rfl rfl ?_ | refine r_built tab_ok rfl rfl rfl rfl rfl rfl rfl rfl rfl ?_ | refine r_append tab_ok rfl rfl rfl rfl rfl rfl rfl rfl rfl (by first | omega | (simp; omega)) rfl ?_))
    refine ⟨⟨(oneS (L.drop a) [] a).2, out ++ [(oneS (L.drop a) [] a).1], hnx.2, by rw [List.append_assoc, List.singleton_append]; exact heq⟩, by dsimp only; omega, ?_⟩
    dsimp only
    rw [List.map_append]
    exact fits_trans (s' := ⟨[.row 0 49 7 (out.map nF ++ [nF (oneS (L.drop a) [] a).1]), .gone], [(0, .sl 6 (L.map tD)), (2, .row 0 0), (3, .val (.int .i64 (oneS (L.drop a) [] a).2))]⟩) (fits_conv byV byV) (fits_drop 1 rfl rfl ⟨⟨rfl, Sub.refl _⟩, ⟨rfl, Sub.refl _⟩, ⟨rfl, Sub.refl _⟩, trivial⟩)
  · rw [allA_ge (by omega), List.append_nil] at heq
    rw [← heq]
    repeat (first | refine awp_seq ?_ | refine thenA_normal ?_ | refine a_region ?_ | refine awp_ret ?_ | refine awp_exit ?_ | refine r_done ?_ | (refine r_id ?_; first | refine r_ev tab_ok rfl rfl rfl rfl byE rfl ?_) | refine ret1_row byO rfl rfl rfl ?_)
    exact Sub.refl _
end Go.Proofs.YtiolnmfaeenlmaaGreatDoor
