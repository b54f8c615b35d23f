import Derived.Test.YtfmafehogfikmaaGreatDoorI4
import Derived.Test.YtfmafehogfikmaaGreatDoorU5
import Derived.Test.YtfmafehogfikmaaGreatDoorKd
import Derived.Test.YtfmafehogfikmaaGreatDoorF4
import Derived.Test.YtfmafehogfikmaaGreatDoorI7
/- The reference's Sheet: rules; walked. -/
namespace Go.Proofs.YtfmafehogfikmaaGreatDoor
open Go Go.RowKit
set_option maxRecDepth 20000

def skB (n : Nd) : Bool := decide (n.tok.kind = 13) || decide (n.tok.kind = 14) || decide (n.tok.kind = 15) || decide (n.tok.kind = 17)
def goB (a : Bool) (n : Nd) : Bool := !kq n && (!a || !xM n)
def atKB (n : Nd) : Bool := decide (n.tok.kind = 3)
def frI (l : List Nd) (i : Nat) : Nat := if atKB (vY l i) then i + 1 else i
def enI (l : List Nd) (i : Nat) : Nat := wr (goB (atKB (vY l i))) l (frI l i)
def blI (l : List Nd) (k : Nat) : Bool := decide (k < l.length) && kq (vY l k)
def y6 (l : List Nd) (i : Nat) : Rl := ⟨if atKB (vY l i) then vk (vY l i).tok.text else ⟨#[]⟩, uW ((l.take (enI l i)).drop (frI l i)), blI l (enI l i), if blI l (enI l i) then wY (vY l (enI l i)).kids 0 else []⟩
def emI (l : List Nd) (i : Nat) : List Rl := if atKB (vY l i) || blI l (enI l i) then [y6 l i] else []
def qV : Nat → List Nd → Nat → List Rl
  | 0, _, _ => []
  | f + 1, l, i =>
    if i < l.length then (if skB (vY l i) then qV f l (i + 1) else emI l i ++ qV f l (enI l i + 1)) else []
theorem frI_ge (l : List Nd) (i : Nat) : i ≤ frI l i := by unfold frI; split <;> omega
theorem enI_ge (l : List Nd) (i : Nat) : i ≤ enI l i := Nat.le_trans (frI_ge l i) (yP _ _ _)
theorem kC : ∀ (f f' : Nat) (l : List Nd) (i : Nat), l.length - i ≤ f → l.length - i ≤ f' → qV f l i = qV f' l i
  | 0, 0, _, _, _, _ => rfl
  | 0, f' + 1, l, i, h, _ => by rw [qV, qV, if_neg (by omega)]
  | f + 1, 0, l, i, _, h => by rw [qV, qV, if_neg (by omega)]
  | f + 1, f' + 1, l, i, h, h' => by
    have := enI_ge l i
    rw [qV, qV, kC f f' l (i + 1) (by omega) (by omega), kC f f' l (enI l i + 1) (by omega) (by omega)]
def shtA (l : List Nd) (i : Nat) : List Rl := qV (l.length - i) l i
theorem shtA_end {l : List Nd} {i : Nat} (h : ¬ i < l.length) : shtA l i = [] := by rw [shtA, show l.length - i = 0 by omega, qV]
theorem shtA_step {l : List Nd} {i : Nat} (h : i < l.length) : shtA l i = if skB (vY l i) then shtA l (i + 1) else emI l i ++ shtA l (enI l i + 1) := by
  obtain ⟨f, hf⟩ : ∃ f, l.length - i = f + 1 := ⟨l.length - i - 1, by omega⟩
  have := enI_ge l i
  rw [shtA, hf, qV, if_pos h, kC f (l.length - (i + 1)) l _ (by omega) (Nat.le_refl _), kC f (l.length - (enI l i + 1)) l _ (by omega) (Nat.le_refl _)]
  rfl
structure ShS (l : List Nd) where
  i : Nat
  out : List Rl
  hol : out.length ≤ i
  hi : i ≤ l.length + 1
  eq : out ++ shtA l i = shtA l 0
set_option maxHeartbeats 8000000 in
theorem sheet_ok (b : List UInt8) (hb : b.length ≤ 65536) (ht : ∀ n ∈ wc (wj (wk ⟨b.toArray⟩)) 0, n.tok.text.size ≤ 1099511627776) (hk : ∀ n ∈ wc (wj (wk ⟨b.toArray⟩)) 0, ∀ m ∈ n.kids, m.tok.text.size ≤ 1099511627776) (hr : (shtA (wc (wj (wk ⟨b.toArray⟩)) 0) 0).length ≤ 500) : uI Tryz.prog 17 [.sl 1 (b.map bD)] (.tup [.sl 4 ((shtA (wc (wj (wk ⟨b.toArray⟩)) 0) 0).map rlD), .val (.int .i64 0)]) := by
  refine uP Tryz.func17 Tryz.ntmps17 rfl rfl rfl fun S w => ?_
  have hbm : (b.map bD).length = b.length := List.length_map _
  have hbig : ¬ (65536 : Int) < b.length := by omega
  repeat (first | refine ue ?_ | refine uc ?_ | refine ud ?_ | refine uf ?_ | (refine ug ?_; first | refine uG tab_ok rfl rfl rfl rfl rfl rfl rfl ?_ | refine uh tab_ok rfl rfl rfl rfl byE rfl ?_))
  refine uo rfl (fun h => absurd h hbig) (fun _ => ?_)
  repeat (first | refine ue ?_ | refine ud ?_ | refine uj ?_ | (refine ug ?_; first | refine uh tab_ok rfl rfl rfl rfl byE rfl ?_))
  refine uw (refRead b (by omega)) call27 rfl rfl ⟨Sub.refl _, trivial⟩ rfl rfl rfl rfl ?_
  have hl1 := yB ⟨b.toArray⟩
  have hbs : (⟨b.toArray⟩ : ByteArray).size = b.length := List.size_toArray
  refine uw (tokens_ok (wk ⟨b.toArray⟩) (by omega)) call26 rfl rfl ⟨Sub.refl _, trivial⟩ rfl rfl rfl rfl ?_
  have hl2 : (wj (wk ⟨b.toArray⟩)).length ≤ 65536 := by
    obtain ⟨r, j, h1, h2, h3, h4, h5⟩ := wy (xK (wk ⟨b.toArray⟩)) (wk ⟨b.toArray⟩).length 0 (Nat.zero_le _) (by omega)
    rw [wj]
    omega
  refine uw (nodes_ok (wj (wk ⟨b.toArray⟩)) (by omega)) call25 rfl rfl ⟨Sub.refl _, trivial⟩ rfl rfl rfl rfl ?_
  have hl3 := nodesA_sz (wj (wk ⟨b.toArray⟩))
  generalize wc (wj (wk ⟨b.toArray⟩)) 0 = l at ht hk hr hl3 ⊢
  have hll := u7 l
  have hlm : (l.map nF).length = l.length := List.length_map _
  repeat (first | refine ue ?_ | refine uc ?_ | refine um ?_ | refine ud ?_ | refine uf ?_ | (refine ug ?_; first | refine uh tab_ok rfl rfl rfl rfl byE rfl ?_))
  refine uV (σ := ShS l) (fun x => [.row 0 37 4 (x.out.map rlD)]) (fun x => [(4, .sl 7 (l.map nF)), (5, .row 0 0), (6, .val (.int .i64 x.i))]) (fun x => l.length + 1 - x.i) ⟨0, [], Nat.zero_le _, Nat.zero_le _, rfl⟩ (uy byV byV) ?_
  rintro ⟨i, out, hol, hi, heq⟩
  dsimp only
  have hom : (out.map rlD).length = out.length := List.length_map _
  repeat (first | refine ue ?_ | refine uc ?_ | refine ud ?_ | refine uf ?_ | (refine ug ?_; first | refine uG tab_ok rfl rfl rfl rfl rfl rfl rfl ?_ | refine uh tab_ok rfl rfl rfl rfl byE rfl ?_))
  refine uo rfl (fun hlt => ?_) (fun hge => ?_)
  rotate_left
  · rw [shtA_end (by omega), List.append_nil] at heq
    rw [heq] at hom ⊢
    repeat (first | refine ue ?_ | refine uc ?_ | refine ud ?_ | refine uC ?_ | refine uf ?_ | (refine ug ?_; first | refine uh tab_ok rfl rfl rfl rfl byE rfl ?_ | refine uJ tab_ok rfl rfl rfl rfl rfl ?_))
    refine uo rfl (fun h => absurd h (by omega)) (fun _ => ?_)
    repeat (first | refine ue ?_ | refine uc ?_ | refine ud ?_ | refine uj ?_ | refine uf ?_ | (refine ug ?_; first | refine uh tab_ok rfl rfl rfl rfl byE rfl ?_))
    refine ve (s' := ⟨[.gone], [(2, .sl 4 ((shtA l 0).map rlD)), (3, .val (.int .i64 0))]⟩) (uy byV ⟨yL rfl rfl rfl, vb rfl (Sub.refl _) rfl, trivial⟩) ?_
    repeat (first | refine uk ?_ | refine ww byO rfl rfl rfl rfl ?_ ?_)
    all_goals exact Sub.refl _
  have hi' : i < l.length := by omega
  have hgi := wa hi'
  rw [shtA_step hi'] at heq
  obtain ⟨n, hn⟩ : ∃ n, vY l i = n := ⟨_, rfl⟩
  have hnt := ht n (by rw [← hn, ← hgi]; exact List.getElem_mem hi')
  simp only [hn] at heq hgi
  repeat (first | refine ue ?_ | refine uc ?_ | refine um ?_ | refine ud ?_ | refine uj ?_ | refine uf ?_ | (refine ug ?_; first | refine uh tab_ok rfl rfl rfl rfl byE rfl ?_ | refine uJ tab_ok rfl rfl rfl rfl rfl ?_ | refine vf tab_ok rfl rfl rfl rfl rfl rfl rfl (by first | exact ⟨by omega, by omega⟩ | (simp; omega)) rfl rfl ?_ | refine vp tab_ok rfl rfl rfl rfl rfl ?_ | refine uM tab_ok rfl rfl rfl rfl ?_ | refine ux tab_ok rfl rfl rfl rfl rfl rfl byC (by first | exact fun _ => trivial | (intro h; simp at h; omega)) rfl ?_ | refine vd tab_ok rfl rfl rfl rfl rfl rfl byC rfl ?_ | refine vI rfl rfl rfl rfl rfl rfl rfl rfl ?_))
  simp only [Int.toNat_natCast, hgi]
  refine uA rfl (fun hc => ?_) (fun hc => ?_)
  · rw [if_pos (show skB n = true from hc)] at heq
    repeat (first | refine ue ?_ | refine uc ?_ | refine ud ?_ | refine uC ?_ | refine vg ?_ | refine vi rfl ?_ | refine uf ?_ | (refine ug ?_; first | refine uh tab_ok rfl rfl rfl rfl byE rfl ?_))
    exact ⟨⟨i + 1, out, by omega, by omega, heq⟩, by dsimp only; omega, u2 1 rfl rfl byK⟩
  rw [if_neg (by rw [show skB n = false from hc]; exact Bool.false_ne_true)] at heq
  cases ha : atKB n with
  | true =>
    have hfr : frI l i = i + 1 := by rw [frI, hn, ha]; rfl
    obtain ⟨kE, hkE⟩ : ∃ kE, kE = wr (goB true) l (i + 1) := ⟨_, rfl⟩
    have hen : enI l i = kE := by rw [enI, hfr, hn, ha, hkE]
    have hfl : i + 1 ≤ l.length := by omega
    have hkge : i + 1 ≤ kE := by rw [hkE]; exact yP _ _ _
    have hkle : kE ≤ l.length := by rw [hkE]; exact ql hfl
    rw [hen] at heq
    have hat3 : n.tok.kind = 3 := by simpa [atKB] using ha
    repeat (first | refine ue ?_ | refine uc ?_ | refine ud ?_ | refine uj ?_ | refine uf ?_ | (refine ug ?_; first | refine uh tab_ok rfl rfl rfl rfl byE rfl ?_ | refine uJ tab_ok rfl rfl rfl rfl rfl ?_ | refine vp tab_ok rfl rfl rfl rfl rfl ?_))
    refine uo rfl (fun _ => ?_) (fun h => absurd hat3 h)
    repeat (first | refine ue ?_ | refine ud ?_ | (refine ug ?_; first | refine uh tab_ok rfl rfl rfl rfl byE rfl ?_ | refine uJ tab_ok rfl rfl rfl rfl rfl ?_))
    refine uw (wI n.tok.text (by omega)) yq rfl rfl ⟨Sub.refl _, trivial⟩ rfl rfl rfl rfl ?_
    repeat (first | refine ue ?_ | refine uc ?_ | refine um ?_ | refine ud ?_ | refine uf ?_ | (refine ug ?_; first | refine uh tab_ok rfl rfl rfl rfl byE rfl ?_ | refine uM tab_ok rfl rfl rfl rfl ?_))
    refine uV (σ := {k : Nat // i + 1 ≤ k ∧ k ≤ kE}) (fun _ => [.row 0 37 4 (out.map rlD), .box 48 [.val (.int .i64 n.tok.kind), .val (.string n.tok.text), .val (.int .i64 n.tok.int), .val (.bool n.tok.whole), .val (.bool n.tok.sign), .val (.bool n.tok.id)], .box 37 [.val (.string (vk n.tok.text)), .val (.slice none 0 0), .val (.bool false), .val (.slice none 0 0)]]) (fun x => [(4, .sl 7 (l.map nF)), (5, .row 0 0), (8, .val (.bool true)), (9, .ptr 2 0), (10, .val (.int .i64 (x.1 : Nat))), (11, .val (.int .i64 (i + 1 : Nat)))]) (fun x => l.length - x.1) ⟨i + 1, Nat.le_refl _, hkge⟩ (uy byV ⟨vb rfl (Sub.refl _) rfl, xl rfl rfl rfl, vb rfl (Sub.of_eq (congrArg (fun b => AV.val (.bool b)) (decide_eq_true hat3))) rfl, wS rfl rfl rfl rfl, vb rfl (Sub.refl _) rfl, vb rfl (Sub.refl _) rfl, trivial⟩) ?_
    rintro ⟨k, hik, hk0⟩
    dsimp only
    have hk1 : k ≤ wr (goB true) l (i + 1) := by rw [← hkE]; exact hk0
    rcases Nat.lt_or_ge k l.length with hkl | hkl
    · have hgk := wa hkl
      have hmore := yA (p := goB true) hik hk1 hkl
      have hstop := fun h => zp (p := goB true) hik hk1 (fun _ => h)
      rw [← hkE] at hmore hstop
      obtain ⟨m, hm⟩ : ∃ m, vY l k = m := ⟨_, rfl⟩
      have hmt := hk m (by rw [← hm, ← hgk]; exact List.getElem_mem hkl)
      simp only [hm] at hgk hmore hstop
      repeat (first | refine ue ?_ | refine ud ?_ | (refine ug ?_; first | refine uG tab_ok rfl rfl rfl rfl rfl rfl rfl ?_ | refine uh tab_ok rfl rfl rfl rfl byE rfl ?_ | refine ux tab_ok rfl rfl rfl rfl rfl rfl byC (by first | exact fun _ => trivial | (intro h; simp at h; omega)) rfl ?_ | refine vo tab_ok rfl rfl rfl rfl rfl rfl rfl byC rfl rfl (by exact ⟨by omega, by omega⟩) rfl rfl ?_))
      simp only [Int.toNat_natCast, hgk]
      try simp only [Int.toNat_natCast, hgk]
      refine vt (fun _ => xv m) qD rfl rfl rfl rfl byC ⟨Sub.refl _, trivial⟩ rfl rfl rfl rfl ?_
      repeat (first | refine uc ?_ | refine uf ?_ | (refine ug ?_; first | refine uh tab_ok rfl rfl rfl rfl byE rfl ?_ | refine ux tab_ok rfl rfl rfl rfl rfl rfl byC (by first | exact fun _ => trivial | (intro h; simp at h; omega)) rfl ?_ | refine vo tab_ok rfl rfl rfl rfl rfl rfl rfl byC rfl rfl (by exact ⟨by omega, by omega⟩) rfl rfl ?_ | refine wJ rfl rfl rfl rfl rfl rfl rfl rfl rfl rfl ?_ | refine vm rfl rfl rfl rfl rfl rfl rfl rfl ?_))
      try simp only [Int.toNat_natCast, hgk]
      have hd : decide ((k : Int) < l.length) = true := decide_eq_true (by omega)
      refine uA rfl (fun hc => ?_) (fun hc => ?_)
      · rw [hd, Bool.true_and] at hc
        have hlt2 := hmore hc
        repeat (first | refine uc ?_ | refine um ?_ | refine ud ?_ | refine ut ?_ | refine uj ?_ | refine uf ?_ | (refine ug ?_; first | refine uh tab_ok rfl rfl rfl rfl byE rfl ?_))
        exact ⟨⟨k + 1, by omega, hlt2⟩, by dsimp only; omega, u5 rfl byK⟩
      · rw [hd, Bool.true_and] at hc
        have he := hstop hc
        clear hmore hstop hc
        subst he
        repeat (first | refine ue ?_ | refine ud ?_ | refine uC ?_ | (refine ug ?_; first | refine uh tab_ok rfl rfl rfl rfl byE rfl ?_))
        refine xj tab_ok rfl rfl rfl rfl rfl rfl rfl rfl (by show (0 : Int) ≤ (((i + 1) : Nat) : Int) ∧ (((i + 1) : Nat) : Int) ≤ ((k : Nat) : Int) ∧ ((k : Nat) : Int) ≤ (l.length : Int); omega) rfl ?_
        refine uw (show uI Tryz.prog 32 [.sl 7 (((l.take ((k : Nat) : Int).toNat).drop ((((i + 1) : Nat) : Int)).toNat).map nF)] (.sl 7 ((uW ((l.take k).drop (i + 1))).map nF)) by
            simp only [Int.toNat_natCast]
            exact xb ((l.take k).drop (i + 1)) (by simp only [List.length_drop, List.length_take]; omega)) zd rfl rfl ⟨Sub.refl _, trivial⟩ rfl rfl rfl rfl ?_
        repeat (first | refine ue ?_ | refine ud ?_ | refine uf ?_ | (refine ug ?_; first | refine uG tab_ok rfl rfl rfl rfl rfl rfl rfl ?_ | refine uh tab_ok rfl rfl rfl rfl byE rfl ?_ | refine uM tab_ok rfl rfl rfl rfl ?_ | refine ux tab_ok rfl rfl rfl rfl rfl rfl byC (by first | exact fun _ => trivial | (intro h; simp at h; omega)) rfl ?_ | refine vo tab_ok rfl rfl rfl rfl rfl rfl rfl byC rfl rfl (by exact ⟨by omega, by omega⟩) rfl rfl ?_))
        simp only [Int.toNat_natCast, hgk]
        try simp only [Int.toNat_natCast, hgk]
        refine vt (fun _ => xv m) qD rfl rfl rfl rfl byC ⟨Sub.refl _, trivial⟩ rfl rfl rfl rfl ?_
        rw [hd]
        cases hb : kq m with
        | true =>
          have hkl2 := zL hkl
          rw [hgk] at hkl2
          have hkl3 := u7 m.kids
          repeat (first | refine ue ?_ | refine uc ?_ | refine ud ?_ | refine uf ?_ | (refine ug ?_; first | refine uh tab_ok rfl rfl rfl rfl byE rfl ?_ | refine vf tab_ok rfl rfl rfl rfl rfl rfl rfl (by first | exact ⟨by omega, by omega⟩ | (simp; omega)) rfl rfl ?_ | refine uM tab_ok rfl rfl rfl rfl ?_ | refine vm rfl rfl rfl rfl rfl rfl rfl rfl ?_) | refine uq rfl ?_)
          try simp only [Int.toNat_natCast, hgk]
          refine uw (show uI Tryz.prog 36 [.sl 7 (m.kids.map nD)] (.sl 3 ((wY m.kids 0).map dcD)) by rw [nD_fun]; exact kH m.kids (by omega) hmt) call36 rfl rfl ⟨Sub.refl _, trivial⟩ rfl rfl rfl rfl ?_
          have hbl : blI l k = true := by rw [blI, hm, hb, decide_eq_true hkl]; rfl
          have hrl : y6 l i = ⟨(vk n.tok.text), uW ((l.take k).drop (i + 1)), true, wY m.kids 0⟩ := by rw [y6, hen, hfr, hn, ha, hbl, hm]; rfl
          have hem : emI l i = [y6 l i] := by rw [emI, hn, ha, hen, hbl]; rfl
          rw [hem, hrl] at heq
          repeat (first | refine ue ?_ | refine uc ?_ | refine ud ?_ | refine ut ?_ | refine uf ?_ | (refine ug ?_; first | refine uh tab_ok rfl rfl rfl rfl byE rfl ?_ | refine uJ tab_ok rfl rfl rfl rfl rfl ?_ | refine uM tab_ok rfl rfl rfl rfl ?_ | refine ux tab_ok rfl rfl rfl rfl rfl rfl byC (by first | exact fun _ => trivial | (intro h; simp at h; omega)) rfl ?_ | refine vd tab_ok rfl rfl rfl rfl rfl rfl byC rfl ?_ | refine vI rfl rfl rfl rfl rfl rfl rfl rfl ?_ | refine u9 tab_ok rfl rfl rfl rfl rfl rfl rfl rfl rfl ?_ | refine u6 tab_ok rfl rfl rfl rfl rfl rfl rfl rfl rfl (by first | omega | (simp; omega)) rfl ?_) | refine uq rfl ?_)
          refine ⟨⟨k + 1, out ++ [⟨(vk n.tok.text), uW ((l.take k).drop (i + 1)), true, wY m.kids 0⟩], by simp; omega, by omega, by rw [List.append_assoc]; exact heq⟩, by dsimp only; omega, ?_⟩
          dsimp only
          rw [show (out ++ [(⟨(vk n.tok.text), uW ((l.take k).drop (i + 1)), true, wY m.kids 0⟩ : Rl)]).map rlD = out.map rlD ++ [rlD ⟨(vk n.tok.text), uW ((l.take k).drop (i + 1)), true, wY m.kids 0⟩] from List.map_append]
          exact vN (s' := ⟨[.row 0 37 4 (out.map rlD ++ [rlD ⟨(vk n.tok.text), uW ((l.take k).drop (i + 1)), true, wY m.kids 0⟩]), .gone, .gone], [(4, .sl 7 (l.map nF)), (5, .row 0 0), (6, .val (.int .i64 (k + 1 : Nat)))]⟩) (uy byV ⟨vb rfl (Sub.refl _) rfl, xl rfl rfl rfl, vb rfl (Sub.refl _) rfl, trivial⟩) (u2 1 rfl rfl byK)
        | false =>
          have hbl : blI l k = false := by rw [blI, hm, hb, decide_eq_true hkl]; rfl
          have hrl : y6 l i = ⟨(vk n.tok.text), uW ((l.take k).drop (i + 1)), false, []⟩ := by rw [y6, hen, hfr, hn, ha, hbl]; rfl
          have hem : emI l i = [y6 l i] := by rw [emI, hn, ha, hen, hbl]; rfl
          rw [hem, hrl] at heq
          repeat (first | refine ue ?_ | refine uc ?_ | refine uj ?_ | refine uf ?_ | (refine ug ?_; first | refine vm rfl rfl rfl rfl rfl rfl rfl rfl ?_) | refine ur rfl ?_)
          refine ve (s' := ⟨[.row 0 37 4 (out.map rlD), .box 48 [.val (.int .i64 n.tok.kind), .val (.string n.tok.text), .val (.int .i64 n.tok.int), .val (.bool n.tok.whole), .val (.bool n.tok.sign), .val (.bool n.tok.id)], .box 37 [.val (.string (vk n.tok.text)), .sl 7 ((uW ((l.take k).drop (i + 1))).map nF), .val (.bool false), .sl 3 []]], [(4, .sl 7 (l.map nF)), (5, .row 0 0), (8, .val (.bool true)), (9, .ptr 2 0), (10, .val (.int .i64 (k : Nat)))]⟩) (uy byV ⟨vb rfl (Sub.refl _) rfl, xl rfl rfl rfl, vb rfl (Sub.refl _) rfl, wS rfl rfl rfl rfl, vb rfl (Sub.refl _) rfl, trivial⟩) ?_
          repeat (first | refine uc ?_ | refine ud ?_ | refine ut ?_ | refine uf ?_ | (refine ug ?_; first | refine uh tab_ok rfl rfl rfl rfl byE rfl ?_ | refine uJ tab_ok rfl rfl rfl rfl rfl ?_ | refine ux tab_ok rfl rfl rfl rfl rfl rfl byC (by first | exact fun _ => trivial | (intro h; simp at h; omega)) rfl ?_ | refine vd tab_ok rfl rfl rfl rfl rfl rfl byC rfl ?_ | refine vI rfl rfl rfl rfl rfl rfl rfl rfl ?_ | refine u9 tab_ok rfl rfl rfl rfl rfl rfl rfl rfl rfl ?_ | refine u6 tab_ok rfl rfl rfl rfl rfl rfl rfl rfl rfl (by first | omega | (simp; omega)) rfl ?_) | refine uq rfl ?_)
          refine ⟨⟨k + 1, out ++ [⟨(vk n.tok.text), uW ((l.take k).drop (i + 1)), false, []⟩], by simp; omega, by omega, by rw [List.append_assoc]; exact heq⟩, by dsimp only; omega, ?_⟩
          dsimp only
          rw [show (out ++ [(⟨(vk n.tok.text), uW ((l.take k).drop (i + 1)), false, []⟩ : Rl)]).map rlD = out.map rlD ++ [rlD ⟨(vk n.tok.text), uW ((l.take k).drop (i + 1)), false, []⟩] from List.map_append]
          exact vN (s' := ⟨[.row 0 37 4 (out.map rlD ++ [rlD ⟨(vk n.tok.text), uW ((l.take k).drop (i + 1)), false, []⟩]), .gone, .gone], [(4, .sl 7 (l.map nF)), (5, .row 0 0), (6, .val (.int .i64 (k + 1 : Nat)))]⟩) (uy byV ⟨vb rfl (Sub.refl _) rfl, xl rfl rfl rfl, vb rfl (Sub.refl _) rfl, trivial⟩) (u2 1 rfl rfl byK)
    · have he : k = kE := by omega
      subst he
      repeat (first | refine ue ?_ | refine ud ?_ | (refine ug ?_; first | refine uG tab_ok rfl rfl rfl rfl rfl rfl rfl ?_ | refine uh tab_ok rfl rfl rfl rfl byE rfl ?_ | refine va rfl rfl rfl rfl rfl rfl ?_) | refine uD rfl rfl (congrArg (fun b => AV.val (.bool b)) (decide_eq_false (by omega))) rfl rfl rfl rfl ?_ | refine va rfl rfl (congrArg (fun b => AV.val (.bool b)) (decide_eq_false (by omega))) rfl rfl rfl ?_)
      repeat refine y8 rfl rfl rfl rfl rfl rfl ?_
      repeat (first | refine ue ?_ | refine uc ?_ | refine ud ?_ | refine uC ?_ | refine uf ?_ | (refine ug ?_; first | refine uh tab_ok rfl rfl rfl rfl byE rfl ?_ | refine uD rfl rfl rfl rfl rfl rfl rfl ?_ | refine va rfl rfl rfl rfl rfl rfl ?_) | refine ur rfl ?_)
      refine xj tab_ok rfl rfl rfl rfl rfl rfl rfl rfl (by show (0 : Int) ≤ (((i + 1) : Nat) : Int) ∧ (((i + 1) : Nat) : Int) ≤ ((k : Nat) : Int) ∧ ((k : Nat) : Int) ≤ (l.length : Int); omega) rfl ?_
      refine uw (show uI Tryz.prog 32 [.sl 7 (((l.take ((k : Nat) : Int).toNat).drop ((((i + 1) : Nat) : Int)).toNat).map nF)] (.sl 7 ((uW ((l.take k).drop (i + 1))).map nF)) by
          simp only [Int.toNat_natCast]
          exact xb ((l.take k).drop (i + 1)) (by simp only [List.length_drop, List.length_take]; omega)) zd rfl rfl ⟨Sub.refl _, trivial⟩ rfl rfl rfl rfl ?_
      repeat (first | refine ue ?_ | refine uf ?_ | (refine ug ?_; first | refine uh tab_ok rfl rfl rfl rfl byE rfl ?_ | refine uM tab_ok rfl rfl rfl rfl ?_))
      refine ud ?_
      repeat (first | refine ue ?_ | refine uc ?_ | refine uj ?_ | refine uf ?_ | (refine ug ?_; first | refine uG tab_ok rfl rfl rfl rfl rfl rfl rfl ?_ | refine uh tab_ok rfl rfl rfl rfl byE rfl ?_) | refine ur rfl ?_ | refine uD rfl rfl (congrArg (fun b => AV.val (.bool b)) (decide_eq_false (by omega))) rfl rfl rfl rfl ?_ | refine va rfl rfl (congrArg (fun b => AV.val (.bool b)) (decide_eq_false (by omega))) rfl rfl rfl ?_)
      have hbl : blI l k = false := by rw [blI, decide_eq_false (by omega)]; rfl
      have hrl : y6 l i = ⟨(vk n.tok.text), uW ((l.take k).drop (i + 1)), false, []⟩ := by rw [y6, hen, hfr, hn, ha, hbl]; rfl
      have hem : emI l i = [y6 l i] := by rw [emI, hn, ha, hen, hbl]; rfl
      rw [hem, hrl] at heq
      refine ve (s' := ⟨[.row 0 37 4 (out.map rlD), .box 48 [.val (.int .i64 n.tok.kind), .val (.string n.tok.text), .val (.int .i64 n.tok.int), .val (.bool n.tok.whole), .val (.bool n.tok.sign), .val (.bool n.tok.id)], .box 37 [.val (.string (vk n.tok.text)), .sl 7 ((uW ((l.take k).drop (i + 1))).map nF), .val (.bool false), .sl 3 []]], [(4, .sl 7 (l.map nF)), (5, .row 0 0), (8, .val (.bool true)), (9, .ptr 2 0), (10, .val (.int .i64 (k : Nat)))]⟩) (uy byV ⟨vb rfl (Sub.refl _) rfl, xl rfl rfl rfl, vb rfl (Sub.refl _) rfl, wS rfl rfl rfl rfl, vb rfl (Sub.refl _) rfl, trivial⟩) ?_
      repeat (first | refine uc ?_ | refine ud ?_ | refine ut ?_ | refine uf ?_ | (refine ug ?_; first | refine uh tab_ok rfl rfl rfl rfl byE rfl ?_ | refine uJ tab_ok rfl rfl rfl rfl rfl ?_ | refine ux tab_ok rfl rfl rfl rfl rfl rfl byC (by first | exact fun _ => trivial | (intro h; simp at h; omega)) rfl ?_ | refine vd tab_ok rfl rfl rfl rfl rfl rfl byC rfl ?_ | refine vI rfl rfl rfl rfl rfl rfl rfl rfl ?_ | refine u9 tab_ok rfl rfl rfl rfl rfl rfl rfl rfl rfl ?_ | refine u6 tab_ok rfl rfl rfl rfl rfl rfl rfl rfl rfl (by first | omega | (simp; omega)) rfl ?_) | refine uq rfl ?_)
      refine ⟨⟨k + 1, out ++ [⟨(vk n.tok.text), uW ((l.take k).drop (i + 1)), false, []⟩], by simp; omega, by omega, by rw [List.append_assoc]; exact heq⟩, by dsimp only; omega, ?_⟩
      dsimp only
      rw [show (out ++ [(⟨(vk n.tok.text), uW ((l.take k).drop (i + 1)), false, []⟩ : Rl)]).map rlD = out.map rlD ++ [rlD ⟨(vk n.tok.text), uW ((l.take k).drop (i + 1)), false, []⟩] from List.map_append]
      exact vN (s' := ⟨[.row 0 37 4 (out.map rlD ++ [rlD ⟨(vk n.tok.text), uW ((l.take k).drop (i + 1)), false, []⟩]), .gone, .gone], [(4, .sl 7 (l.map nF)), (5, .row 0 0), (6, .val (.int .i64 (k + 1 : Nat)))]⟩) (uy byV ⟨vb rfl (Sub.refl _) rfl, xl rfl rfl rfl, vb rfl (Sub.refl _) rfl, trivial⟩) (u2 1 rfl rfl byK)
  | false =>
    have hfr : frI l i = i := by rw [frI, hn, ha]; rfl
    obtain ⟨kE, hkE⟩ : ∃ kE, kE = wr (goB false) l (i) := ⟨_, rfl⟩
    have hen : enI l i = kE := by rw [enI, hfr, hn, ha, hkE]
    have hfl : i ≤ l.length := by omega
    have hkge : i ≤ kE := by rw [hkE]; exact yP _ _ _
    have hkle : kE ≤ l.length := by rw [hkE]; exact ql hfl
    rw [hen] at heq
    have hat3 : ¬ n.tok.kind = 3 := by simpa [atKB] using ha
    repeat (first | refine ue ?_ | refine uc ?_ | refine ud ?_ | refine uj ?_ | refine uf ?_ | (refine ug ?_; first | refine uh tab_ok rfl rfl rfl rfl byE rfl ?_ | refine uJ tab_ok rfl rfl rfl rfl rfl ?_ | refine vp tab_ok rfl rfl rfl rfl rfl ?_))
    refine uo rfl (fun h => absurd h hat3) (fun _ => ?_)
    repeat (first | refine ue ?_ | refine um ?_ | refine ud ?_ | refine uj ?_ | refine uf ?_ | (refine ug ?_; first | refine uh tab_ok rfl rfl rfl rfl byE rfl ?_))
    refine uV (σ := {k : Nat // i ≤ k ∧ k ≤ kE}) (fun _ => [.row 0 37 4 (out.map rlD), .box 48 [.val (.int .i64 n.tok.kind), .val (.string n.tok.text), .val (.int .i64 n.tok.int), .val (.bool n.tok.whole), .val (.bool n.tok.sign), .val (.bool n.tok.id)], .box 37 [.val (.string ⟨#[]⟩), .val (.slice none 0 0), .val (.bool false), .val (.slice none 0 0)]]) (fun x => [(4, .sl 7 (l.map nF)), (5, .row 0 0), (8, .val (.bool false)), (9, .ptr 2 0), (10, .val (.int .i64 (x.1 : Nat))), (11, .val (.int .i64 (i : Nat)))]) (fun x => l.length - x.1) ⟨i, Nat.le_refl _, hkge⟩ (uy byV ⟨vb rfl (Sub.refl _) rfl, xl rfl rfl rfl, vb rfl (Sub.of_eq (congrArg (fun b => AV.val (.bool b)) (decide_eq_false hat3))) rfl, wS rfl rfl rfl rfl, vb rfl (Sub.refl _) rfl, vb rfl (Sub.refl _) rfl, trivial⟩) ?_
    rintro ⟨k, hik, hk0⟩
    dsimp only
    have hk1 : k ≤ wr (goB false) l (i) := by rw [← hkE]; exact hk0
    rcases Nat.lt_or_ge k l.length with hkl | hkl
    · have hgk := wa hkl
      have hmore := yA (p := goB false) hik hk1 hkl
      have hstop := fun h => zp (p := goB false) hik hk1 (fun _ => h)
      rw [← hkE] at hmore hstop
      obtain ⟨m, hm⟩ : ∃ m, vY l k = m := ⟨_, rfl⟩
      have hmt := hk m (by rw [← hm, ← hgk]; exact List.getElem_mem hkl)
      simp only [hm] at hgk hmore hstop
      repeat (first | refine ue ?_ | refine ud ?_ | (refine ug ?_; first | refine uG tab_ok rfl rfl rfl rfl rfl rfl rfl ?_ | refine uh tab_ok rfl rfl rfl rfl byE rfl ?_ | refine ux tab_ok rfl rfl rfl rfl rfl rfl byC (by first | exact fun _ => trivial | (intro h; simp at h; omega)) rfl ?_ | refine vo tab_ok rfl rfl rfl rfl rfl rfl rfl byC rfl rfl (by exact ⟨by omega, by omega⟩) rfl rfl ?_))
      simp only [Int.toNat_natCast, hgk]
      try simp only [Int.toNat_natCast, hgk]
      refine vt (fun _ => xv m) qD rfl rfl rfl rfl byC ⟨Sub.refl _, trivial⟩ rfl rfl rfl rfl ?_
      repeat (first | refine uc ?_ | refine uf ?_ | (refine ug ?_; first | refine uh tab_ok rfl rfl rfl rfl byE rfl ?_ | refine ux tab_ok rfl rfl rfl rfl rfl rfl byC (by first | exact fun _ => trivial | (intro h; simp at h; omega)) rfl ?_ | refine vo tab_ok rfl rfl rfl rfl rfl rfl rfl byC rfl rfl (by exact ⟨by omega, by omega⟩) rfl rfl ?_ | refine wJ rfl rfl rfl rfl rfl rfl rfl rfl rfl rfl ?_ | refine vm rfl rfl rfl rfl rfl rfl rfl rfl ?_))
      try simp only [Int.toNat_natCast, hgk]
      have hd : decide ((k : Int) < l.length) = true := decide_eq_true (by omega)
      refine uA rfl (fun hc => ?_) (fun hc => ?_)
      · rw [hd, Bool.true_and] at hc
        have hlt2 := hmore hc
        repeat (first | refine uc ?_ | refine um ?_ | refine ud ?_ | refine ut ?_ | refine uj ?_ | refine uf ?_ | (refine ug ?_; first | refine uh tab_ok rfl rfl rfl rfl byE rfl ?_))
        exact ⟨⟨k + 1, by omega, hlt2⟩, by dsimp only; omega, u5 rfl byK⟩
      · rw [hd, Bool.true_and] at hc
        have he := hstop hc
        clear hmore hstop hc
        subst he
        repeat (first | refine ue ?_ | refine ud ?_ | refine uC ?_ | (refine ug ?_; first | refine uh tab_ok rfl rfl rfl rfl byE rfl ?_))
        refine xj tab_ok rfl rfl rfl rfl rfl rfl rfl rfl (by show (0 : Int) ≤ ((i : Nat) : Int) ∧ ((i : Nat) : Int) ≤ ((k : Nat) : Int) ∧ ((k : Nat) : Int) ≤ (l.length : Int); omega) rfl ?_
        refine uw (show uI Tryz.prog 32 [.sl 7 (((l.take ((k : Nat) : Int).toNat).drop (((i : Nat) : Int)).toNat).map nF)] (.sl 7 ((uW ((l.take k).drop i)).map nF)) by
            simp only [Int.toNat_natCast]
            exact xb ((l.take k).drop i) (by simp only [List.length_drop, List.length_take]; omega)) zd rfl rfl ⟨Sub.refl _, trivial⟩ rfl rfl rfl rfl ?_
        repeat (first | refine ue ?_ | refine ud ?_ | refine uf ?_ | (refine ug ?_; first | refine uG tab_ok rfl rfl rfl rfl rfl rfl rfl ?_ | refine uh tab_ok rfl rfl rfl rfl byE rfl ?_ | refine uM tab_ok rfl rfl rfl rfl ?_ | refine ux tab_ok rfl rfl rfl rfl rfl rfl byC (by first | exact fun _ => trivial | (intro h; simp at h; omega)) rfl ?_ | refine vo tab_ok rfl rfl rfl rfl rfl rfl rfl byC rfl rfl (by exact ⟨by omega, by omega⟩) rfl rfl ?_))
        simp only [Int.toNat_natCast, hgk]
        try simp only [Int.toNat_natCast, hgk]
        refine vt (fun _ => xv m) qD rfl rfl rfl rfl byC ⟨Sub.refl _, trivial⟩ rfl rfl rfl rfl ?_
        rw [hd]
        cases hb : kq m with
        | true =>
          have hkl2 := zL hkl
          rw [hgk] at hkl2
          have hkl3 := u7 m.kids
          repeat (first | refine ue ?_ | refine uc ?_ | refine ud ?_ | refine uf ?_ | (refine ug ?_; first | refine uh tab_ok rfl rfl rfl rfl byE rfl ?_ | refine vf tab_ok rfl rfl rfl rfl rfl rfl rfl (by first | exact ⟨by omega, by omega⟩ | (simp; omega)) rfl rfl ?_ | refine uM tab_ok rfl rfl rfl rfl ?_ | refine vm rfl rfl rfl rfl rfl rfl rfl rfl ?_) | refine uq rfl ?_)
          try simp only [Int.toNat_natCast, hgk]
          refine uw (show uI Tryz.prog 36 [.sl 7 (m.kids.map nD)] (.sl 3 ((wY m.kids 0).map dcD)) by rw [nD_fun]; exact kH m.kids (by omega) hmt) call36 rfl rfl ⟨Sub.refl _, trivial⟩ rfl rfl rfl rfl ?_
          have hbl : blI l k = true := by rw [blI, hm, hb, decide_eq_true hkl]; rfl
          have hrl : y6 l i = ⟨⟨#[]⟩, uW ((l.take k).drop i), true, wY m.kids 0⟩ := by rw [y6, hen, hfr, hn, ha, hbl, hm]; rfl
          have hem : emI l i = [y6 l i] := by rw [emI, hn, ha, hen, hbl]; rfl
          rw [hem, hrl] at heq
          repeat (first | refine ue ?_ | refine uc ?_ | refine ud ?_ | refine ut ?_ | refine uf ?_ | (refine ug ?_; first | refine uh tab_ok rfl rfl rfl rfl byE rfl ?_ | refine uJ tab_ok rfl rfl rfl rfl rfl ?_ | refine uM tab_ok rfl rfl rfl rfl ?_ | refine ux tab_ok rfl rfl rfl rfl rfl rfl byC (by first | exact fun _ => trivial | (intro h; simp at h; omega)) rfl ?_ | refine vd tab_ok rfl rfl rfl rfl rfl rfl byC rfl ?_ | refine vI rfl rfl rfl rfl rfl rfl rfl rfl ?_ | refine u9 tab_ok rfl rfl rfl rfl rfl rfl rfl rfl rfl ?_ | refine u6 tab_ok rfl rfl rfl rfl rfl rfl rfl rfl rfl (by first | omega | (simp; omega)) rfl ?_) | refine uq rfl ?_)
          refine ⟨⟨k + 1, out ++ [⟨⟨#[]⟩, uW ((l.take k).drop i), true, wY m.kids 0⟩], by simp; omega, by omega, by rw [List.append_assoc]; exact heq⟩, by dsimp only; omega, ?_⟩
          dsimp only
          rw [show (out ++ [(⟨⟨#[]⟩, uW ((l.take k).drop i), true, wY m.kids 0⟩ : Rl)]).map rlD = out.map rlD ++ [rlD ⟨⟨#[]⟩, uW ((l.take k).drop i), true, wY m.kids 0⟩] from List.map_append]
          exact vN (s' := ⟨[.row 0 37 4 (out.map rlD ++ [rlD ⟨⟨#[]⟩, uW ((l.take k).drop i), true, wY m.kids 0⟩]), .gone, .gone], [(4, .sl 7 (l.map nF)), (5, .row 0 0), (6, .val (.int .i64 (k + 1 : Nat)))]⟩) (uy byV ⟨vb rfl (Sub.refl _) rfl, xl rfl rfl rfl, vb rfl (Sub.refl _) rfl, trivial⟩) (u2 1 rfl rfl byK)
        | false =>
          have hbl : blI l k = false := by rw [blI, hm, hb, decide_eq_true hkl]; rfl
          have hem : emI l i = [] := by rw [emI, hn, ha, hen, hbl]; rfl
          rw [hem, List.nil_append] at heq
          repeat (first | refine ue ?_ | refine uc ?_ | refine ud ?_ | refine ut ?_ | refine uj ?_ | refine uf ?_ | (refine ug ?_; first | refine uh tab_ok rfl rfl rfl rfl byE rfl ?_ | refine ux tab_ok rfl rfl rfl rfl rfl rfl byC (by first | exact fun _ => trivial | (intro h; simp at h; omega)) rfl ?_ | refine vd tab_ok rfl rfl rfl rfl rfl rfl byC rfl ?_ | refine vI rfl rfl rfl rfl rfl rfl rfl rfl ?_ | refine vm rfl rfl rfl rfl rfl rfl rfl rfl ?_) | refine ur rfl ?_)
          exact ⟨⟨k + 1, out, by omega, by omega, heq⟩, by dsimp only; omega, u2 1 rfl rfl byK⟩
    · have he : k = kE := by omega
      subst he
      repeat (first | refine ue ?_ | refine ud ?_ | (refine ug ?_; first | refine uG tab_ok rfl rfl rfl rfl rfl rfl rfl ?_ | refine uh tab_ok rfl rfl rfl rfl byE rfl ?_ | refine va rfl rfl rfl rfl rfl rfl ?_) | refine uD rfl rfl (congrArg (fun b => AV.val (.bool b)) (decide_eq_false (by omega))) rfl rfl rfl rfl ?_ | refine va rfl rfl (congrArg (fun b => AV.val (.bool b)) (decide_eq_false (by omega))) rfl rfl rfl ?_)
      repeat refine y8 rfl rfl rfl rfl rfl rfl ?_
      repeat (first | refine ue ?_ | refine uc ?_ | refine ud ?_ | refine uC ?_ | refine uf ?_ | (refine ug ?_; first | refine uh tab_ok rfl rfl rfl rfl byE rfl ?_ | refine uD rfl rfl rfl rfl rfl rfl rfl ?_ | refine va rfl rfl rfl rfl rfl rfl ?_) | refine ur rfl ?_)
      refine xj tab_ok rfl rfl rfl rfl rfl rfl rfl rfl (by show (0 : Int) ≤ ((i : Nat) : Int) ∧ ((i : Nat) : Int) ≤ ((k : Nat) : Int) ∧ ((k : Nat) : Int) ≤ (l.length : Int); omega) rfl ?_
      refine uw (show uI Tryz.prog 32 [.sl 7 (((l.take ((k : Nat) : Int).toNat).drop (((i : Nat) : Int)).toNat).map nF)] (.sl 7 ((uW ((l.take k).drop i)).map nF)) by
          simp only [Int.toNat_natCast]
          exact xb ((l.take k).drop i) (by simp only [List.length_drop, List.length_take]; omega)) zd rfl rfl ⟨Sub.refl _, trivial⟩ rfl rfl rfl rfl ?_
      repeat (first | refine ue ?_ | refine uc ?_ | refine ud ?_ | refine ut ?_ | refine uj ?_ | refine uf ?_ | (refine ug ?_; first | refine uG tab_ok rfl rfl rfl rfl rfl rfl rfl ?_ | refine uh tab_ok rfl rfl rfl rfl byE rfl ?_ | refine uM tab_ok rfl rfl rfl rfl ?_ | refine uD rfl rfl rfl rfl rfl rfl rfl ?_ | refine uY tab_ok rfl rfl rfl rfl rfl rfl (by first | exact trivial | omega) rfl ?_ | refine wm tab_ok rfl rfl rfl rfl rfl rfl rfl ?_) | refine ur rfl ?_ | refine uD rfl rfl (congrArg (fun b => AV.val (.bool b)) (decide_eq_false (by omega))) rfl rfl rfl rfl ?_ | refine va rfl rfl (congrArg (fun b => AV.val (.bool b)) (decide_eq_false (by omega))) rfl rfl rfl ?_)
      have hbl : blI l k = false := by rw [blI, decide_eq_false (by omega)]; rfl
      have hem : emI l i = [] := by rw [emI, hn, ha, hen, hbl]; rfl
      rw [hem, List.nil_append] at heq
      exact ⟨⟨k + 1, out, by omega, by omega, heq⟩, by dsimp only; omega, u2 1 rfl rfl byK⟩
end Go.Proofs.YtfmafehogfikmaaGreatDoor

/- Texts to tokens and nodes. -/
namespace Go.Proofs.YtfmafehogfikmaaGreatDoor
open Go Go.RowKit
set_option maxRecDepth 20000

theorem toksF_len (L : List Int) : (wj L).length ≤ L.length := by
  obtain ⟨r, j, h1, h2, h3, h4, h5⟩ := wy (xK L) L.length 0 (Nat.zero_le _) (by omega)
  rw [wj]
  omega
def toks (s : ByteArray) : List Tk := wj (wk s)
theorem toks_len (s : ByteArray) : (toks s).length ≤ s.size := Nat.le_trans (toksF_len _) (yB s)
def zW (s : ByteArray) : List Nd := wc (toks s) 0
def okT (n : Nd) : Bool := decide (n.tok.text.size ≤ 1099511627776)
end Go.Proofs.YtfmafehogfikmaaGreatDoor

/- Round, Texts of a thing and itself. -/
namespace Go.Proofs.YtfmafehogfikmaaGreatDoor
open Go Go.RowKit
set_option maxRecDepth 20000

theorem texts_self (a : List ByteArray) (ha : a.length ≤ 1099511627776) : uI Tryz.prog 16 [.sl 1 (a.map sF), .sl 1 (a.map sF)] (.val (.bool true)) := by
  refine uP Tryz.func16 Tryz.ntmps16 rfl rfl rfl fun S w => ?_
  have hla : (a.map sF).length = a.length := List.length_map _
  repeat (first | refine ue ?_ | refine uc ?_ | refine ud ?_ | refine uf ?_ | (refine ug ?_; first | refine uG tab_ok rfl rfl rfl rfl rfl rfl rfl ?_ | refine uh tab_ok rfl rfl rfl rfl byE rfl ?_))
  refine vz rfl (fun hne => absurd rfl hne) (fun hl => ?_)
  repeat (first | refine ue ?_ | refine uc ?_ | refine um ?_ | refine ud ?_ | refine uj ?_ | refine uf ?_ | (refine ug ?_; first | refine uh tab_ok rfl rfl rfl rfl byE rfl ?_))
  refine uV (σ := {i : Nat // i ≤ a.length}) (fun _ => []) (fun x => [(0, .sl 1 (a.map sF)), (1, .sl 1 (a.map sF)), (5, .val (.int .i64 x.1))]) (fun x => a.length - x.1) ⟨0, Nat.zero_le _⟩ (u5 rfl byK) ?_
  rintro ⟨i, hi⟩
  dsimp only
  repeat (first | refine ue ?_ | refine uc ?_ | refine ud ?_ | refine uf ?_ | (refine ug ?_; first | refine uG tab_ok rfl rfl rfl rfl rfl rfl rfl ?_ | refine uh tab_ok rfl rfl rfl rfl byE rfl ?_))
  refine uo rfl (fun hlt => ?_) (fun hge => ?_)
  · have hlt : i < a.length := by omega
    repeat (first | refine ue ?_ | refine uc ?_ | refine um ?_ | refine wN vM (by kernel_rfl) ?_ | refine uj ?_ | refine vG ?_ | (refine ug ?_; first | refine uh tab_ok rfl rfl rfl rfl byE rfl ?_ | refine vf tab_ok rfl rfl rfl rfl rfl rfl rfl (by first | exact ⟨by omega, by omega⟩ | (simp; omega)) rfl rfl ?_))
    refine vz rfl (fun hne => absurd rfl hne) (fun he => ?_)
    repeat (first | refine uc ?_ | refine ud ?_ | refine uj ?_ | refine uf ?_ | (refine ug ?_; first | refine uh tab_ok rfl rfl rfl rfl byE rfl ?_))
    exact ⟨⟨i + 1, hlt⟩, by dsimp only; omega, u5 rfl byK⟩
  · repeat (first | refine ue ?_ | refine uc ?_ | refine ud ?_ | refine uk ?_ | refine uC ?_ | refine uf ?_ | (refine ug ?_; first | refine uh tab_ok rfl rfl rfl rfl byE rfl ?_) | refine vB byO rfl rfl rfl ?_)
    exact Sub.refl _
end Go.Proofs.YtfmafehogfikmaaGreatDoor

/- law10: rules, one, nodes; awake. -/
namespace Go.Proofs.YtfmafehogfikmaaGreatDoor
open Go Go.RowKit
set_option maxRecDepth 20000

def okR (r : Rl) : Bool :=
  decide (u4 r.pre < 1099511627776) && r.pre.all okT && decide (r.decls.length ≤ 1099511627776) && r.decls.all (fun d => decide (u4 d.value < 1099511627776) && d.value.all okT) &&
  decide ((nmF r.pre).1.size ≤ 1099511627776) && decide ((v8 (sd0 (nmF r.pre).1) r.decls).syms.length ≤ 65536) && decide ((v8 (sd0 (nmF r.pre).1) r.decls).sums.length ≤ 65536) && decide ((v8 (sd0 (nmF r.pre).1) r.decls).wts.length ≤ 65536) &&
  decide ((v8 (sd0 (nmF r.pre).1) r.decls).range.length ≤ 65536) && decide ((v8 (sd0 (nmF r.pre).1) r.decls).weights.length ≤ 65536)
theorem okR_ok {r : Rl} (h : okR r = true) : RlOk r := by
  simp only [okR, Bool.and_eq_true, decide_eq_true_eq, List.all_eq_true, okT] at h
  obtain ⟨⟨⟨⟨⟨⟨⟨⟨⟨h1, h2⟩, h3⟩, h4⟩, h5⟩, h6⟩, h7⟩, h8⟩, h9⟩, h10⟩ := h
  exact ⟨h1, h2, h3, fun d hd => (h4 d hd).1, fun d hd => (h4 d hd).2, h5, h6, h7, h8, h9, h10⟩
def shF (s : ByteArray) : List Rl := shtA (zW s) 0
def okSh (s : ByteArray) : Bool := decide (s.size ≤ 65536) && (zW s).all (fun n => okT n && n.kids.all okT) && decide ((shF s).length ≤ 500)
set_option maxHeartbeats 1000000 in
theorem rules_ok (s : ByteArray) (h : okSh s = true) : uI Tryz.prog 5 [.val (.string s)] (.sl 4 ((shF s).map rlD)) := by
  simp only [okSh, Bool.and_eq_true, decide_eq_true_eq, List.all_eq_true, okT] at h
  obtain ⟨⟨h1, h2⟩, h3⟩ := h
  refine uP Tryz.func5 Tryz.ntmps5 rfl rfl rfl fun S w => ?_
  repeat (first | refine ue ?_ | refine ud ?_ | refine uf ?_ | (refine ug ?_; first | refine uh tab_ok rfl rfl rfl rfl byE rfl ?_ | refine qn tab_ok rfl rfl rfl rfl rfl rfl (by omega) rfl rfl rfl ?_))
  refine uw (show uI Tryz.prog 17 [.sl 1 (s.data.toList.map bD)] (.tup [.sl 4 ((shF s).map rlD), .val (.int .i64 0)]) from sheet_ok s.data.toList h1 (fun n hn => (h2 n hn).1) (fun n hn m hm => (h2 n hn).2 m hm) h3) call17 rfl rfl ⟨Sub.refl _, trivial⟩ rfl rfl rfl rfl ?_
  repeat (first | refine ue ?_ | refine uc ?_ | refine ud ?_ | refine uk ?_ | refine uf ?_ | (refine ug ?_; first | refine uh tab_ok rfl rfl rfl rfl byE rfl ?_) | refine vB byO rfl rfl rfl ?_)
  exact Sub.refl _
def kd (s : ByteArray) : Sd × Int :=
  match shF s with
  | [r] => ki r
  | _ => (zSd, 5)
set_option maxHeartbeats 1000000 in
theorem one10_ok (s : ByteArray) (h : okSh s = true) (h2 : (shF s).all okR = true) : uI Tryz.prog 15 [.val (.string s)] (.tup [dfA (kd s).1, .val (.int .i64 (kd s).2)]) := by
  refine uP Tryz.func15 Tryz.ntmps15 rfl rfl rfl fun S w => ?_
  repeat (first | refine ue ?_ | refine ud ?_ | refine uf ?_ | (refine ug ?_; first | refine uh tab_ok rfl rfl rfl rfl byE rfl ?_ | refine vp tab_ok rfl rfl rfl rfl rfl ?_))
  refine uw (rules_ok s h) call5 rfl rfl ⟨Sub.refl _, trivial⟩ rfl rfl rfl rfl ?_
  rw [kd]
  obtain ⟨l, hl⟩ : ∃ l, l = shF s := ⟨_, rfl⟩
  rw [← hl] at h2 ⊢
  have hlm : (l.map rlD).length = l.length := List.length_map _
  clear hl
  match l, h2, hlm with
  | [], _, _ =>
    repeat (first | refine ue ?_ | refine uc ?_ | refine ud ?_ | refine uk ?_ | refine un ?_ | refine uf ?_ | (refine ug ?_; first | refine uG tab_ok rfl rfl rfl rfl rfl rfl rfl ?_ | refine uh tab_ok rfl rfl rfl rfl byE rfl ?_ | refine uM tab_ok rfl rfl rfl rfl ?_ | refine uU tab_ok rfl rfl rfl rfl rfl rfl ?_) | refine uq rfl ?_)
    all_goals exact vU tab_ok byO rfl rfl rfl rfl rfl rfl rfl (Sub.agg (by repeat' first | exact trivial | exact Sub.refl _ | exact Sub.nil _ | refine Sub.agg ?_ | apply And.intro)) (Sub.refl _)
  | a :: b :: r, _, _ =>
    have hne : ¬ (((a :: b :: r).length : Nat) : Int) = 1 := by simp only [List.length_cons]; omega
    repeat (first | refine ue ?_ | refine uc ?_ | refine ud ?_ | refine uk ?_ | refine un ?_ | refine uf ?_ | (refine ug ?_; first | refine uG tab_ok rfl rfl rfl rfl rfl rfl rfl ?_ | refine uh tab_ok rfl rfl rfl rfl byE rfl ?_ | refine uM tab_ok rfl rfl rfl rfl ?_ | refine uU tab_ok rfl rfl rfl rfl rfl rfl ?_) | refine uq rfl ?_)
    all_goals exact vU tab_ok byO rfl rfl rfl rfl rfl rfl rfl (Sub.agg (by repeat' first | exact trivial | exact Sub.refl _ | exact Sub.nil _ | refine Sub.agg ?_ | apply And.intro)) (Sub.refl _)
  | [r], h2, _ =>
    have h4 : okR r = true := by simpa using h2
    repeat (first | refine ue ?_ | refine uc ?_ | refine ud ?_ | refine uj ?_ | refine uf ?_ | (refine ug ?_; first | refine uG tab_ok rfl rfl rfl rfl rfl rfl rfl ?_ | refine uh tab_ok rfl rfl rfl rfl byE rfl ?_ | refine vl tab_ok rfl rfl rfl rfl rfl rfl rfl (by decide) rfl rfl rfl ?_) | refine ur rfl ?_)
    refine uw (dparse_ok r (okR_ok h4)) call6 rfl rfl ⟨Sub.refl _, trivial⟩ rfl rfl rfl rfl ?_
    repeat (first | refine uc ?_ | refine uk ?_ | refine uf ?_ | (refine ug ?_; first | refine uh tab_ok rfl rfl rfl rfl byE rfl ?_ | refine uM tab_ok rfl rfl rfl rfl ?_))
    all_goals exact vU tab_ok byO rfl rfl rfl rfl rfl rfl rfl (Sub.refl _) (Sub.refl _)
set_option maxHeartbeats 1000000 in
theorem nodes10_ok (s : ByteArray) (hs : s.size ≤ 549755813888) : uI Tryz.prog 10 [.val (.string s)] (.sl 7 ((zW s).map nF)) := by
  refine uP Tryz.func10 Tryz.ntmps10 rfl rfl rfl fun S w => ?_
  repeat (first | refine ue ?_ | refine ud ?_ | refine uf ?_ | (refine ug ?_; first | refine uh tab_ok rfl rfl rfl rfl byE rfl ?_ | refine qn tab_ok rfl rfl rfl rfl rfl rfl (by omega) rfl rfl rfl ?_))
  refine uw (refRead s.data.toList (by have : s.data.toList.length = s.size := rfl; omega)) call27 rfl rfl ⟨Sub.refl _, trivial⟩ rfl rfl rfl rfl ?_
  have hl := yB s
  refine uw (tokens_ok (wk s) (by omega)) call26 rfl rfl ⟨Sub.refl _, trivial⟩ rfl rfl rfl rfl ?_
  have hl2 := toks_len s
  refine uw (nodes_ok (toks s) (by omega)) call25 rfl rfl ⟨Sub.refl _, trivial⟩ rfl rfl rfl rfl ?_
  repeat (first | refine uc ?_ | refine uk ?_ | refine uf ?_ | (refine ug ?_; first | refine uh tab_ok rfl rfl rfl rfl byE rfl ?_) | refine vB byO rfl rfl rfl ?_)
  exact Sub.refl _
def vb1S : ByteArray := ⟨#[64, 99, 111, 117, 110, 116, 101, 114, 45, 115, 116, 121, 108, 101, 32, 120, 32, 123, 32, 115, 121, 115, 116, 101, 109, 58, 32, 102, 105, 120, 101, 100, 32, 51, 59, 32, 115, 121, 109, 98, 111, 108, 115, 58, 32, 97, 32, 39, 98, 39, 59, 32, 114, 97, 110, 103, 101, 58, 32, 49, 32, 50, 44, 32, 105, 110, 102, 105, 110, 105, 116, 101, 32, 45, 53, 59, 32, 112, 97, 100, 58, 32, 39, 48, 39, 32, 52, 59, 32, 115, 117, 102, 102, 105, 120, 58, 32, 39, 41, 39, 32, 125]⟩
def vb2S : ByteArray := ⟨#[64, 99, 111, 117, 110, 116, 101, 114, 45, 115, 116, 121, 108, 101, 32, 100, 101, 99, 105, 109, 97, 108, 32, 123, 32, 115, 121, 109, 98, 111, 108, 115, 58, 32, 97, 32, 125]⟩
def vb3S : ByteArray := ⟨#[97, 32, 123, 32, 98, 58, 32, 99, 32, 125]⟩
def vb4S : ByteArray := ⟨#[64, 99, 111, 117, 110, 116, 101, 114, 45, 115, 116, 121, 108, 101, 32, 89, 32, 123, 32, 115, 121, 115, 116, 101, 109, 58, 32, 101, 120, 116, 101, 110, 100, 115, 32, 68, 105, 115, 99, 32, 125]⟩
def vb1V : Sd := { sd0 ⟨#[120]⟩ with system := ⟨#[102, 105, 120, 101, 100]⟩, first := 3, symbols := [⟨#[97]⟩, ⟨#[98]⟩], syms := [⟨#[97]⟩, ⟨#[98]⟩], symbolic := true, auto := false, range := [(1, 2), (-2147483648, -5)], pad := 4, padSign := ⟨#[48]⟩, suf := ⟨#[41]⟩, said := 28 }
def vb4V : Sd := { sd0 ⟨#[89]⟩ with system := ⟨#[101, 120, 116, 101, 110, 100, 115]⟩, first := 1, ext := ⟨#[100, 105, 115, 99]⟩ }
theorem vb1 : okSh vb1S = true ∧ (shF vb1S).all okR = true ∧ kd vb1S = (vb1V, 0) := ⟨by kernel_rfl, by kernel_rfl, by kernel_rfl⟩
theorem vb2 : okSh vb2S = true ∧ (shF vb2S).all okR = true ∧ kd vb2S = (zSd, 2) := ⟨by kernel_rfl, by kernel_rfl, by kernel_rfl⟩
theorem vb3 : okSh vb3S = true ∧ (shF vb3S).all okR = true ∧ kd vb3S = (zSd, 1) := ⟨by kernel_rfl, by kernel_rfl, by kernel_rfl⟩
theorem vb4 : okSh vb4S = true ∧ (shF vb4S).all okR = true ∧ kd vb4S = (vb4V, 0) := ⟨by kernel_rfl, by kernel_rfl, by kernel_rfl⟩
theorem one10_at {s : ByteArray} {v : Sd} {e : Int} (h : okSh s = true ∧ (shF s).all okR = true ∧ kd s = (v, e)) : uI Tryz.prog 15 [.val (.string s)] (.tup [dfA v, .val (.int .i64 e)]) := by
  have := one10_ok s h.1 h.2.1
  rwa [h.2.2] at this
end Go.Proofs.YtfmafehogfikmaaGreatDoor
