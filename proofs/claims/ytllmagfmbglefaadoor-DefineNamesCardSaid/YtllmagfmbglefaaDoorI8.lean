/- The reference's Sheet: rules; walked. -/
import Derived.Test.YtllmagfmbglefaaDoorI7
namespace Go.Proofs.YtllmagfmbglefaaDoor
open Go Go.RowKit
set_option maxRecDepth 20000

def skB (n : Nd) : Bool := decide (n.tok.kind = 13) || decide (n.tok.kind = 14) || decide (n.tok.kind = 15) || decide (n.tok.kind = 17)
def goB (a : Bool) (n : Nd) : Bool := !qM n && (!a || !xx n)
def atKB (n : Nd) : Bool := decide (n.tok.kind = 3)
def frI (l : List Nd) (i : Nat) : Nat := if atKB (wj l i) then i + 1 else i
def enI (l : List Nd) (i : Nat) : Nat := wI (goB (atKB (wj l i))) l (frI l i)
def blI (l : List Nd) (k : Nat) : Bool := decide (k < l.length) && qM (wj l k)
def kc (l : List Nd) (i : Nat) : Rl := ⟨if atKB (wj l i) then v7 (wj l i).tok.text else ⟨#[]⟩, vp ((l.take (enI l i)).drop (frI l i)), blI l (enI l i), if blI l (enI l i) then ye (wj l (enI l i)).kids 0 else []⟩
def emI (l : List Nd) (i : Nat) : List Rl := if atKB (wj l i) || blI l (enI l i) then [kc l i] else []
def qY : Nat → List Nd → Nat → List Rl
  | 0, _, _ => []
  | f + 1, l, i =>
    if i < l.length then (if skB (wj l i) then qY f l (i + 1) else emI l i ++ qY f l (enI l i + 1)) else []
theorem frI_ge (l : List Nd) (i : Nat) : i ≤ frI l i := by unfold frI; split <;> omega
theorem enI_ge (l : List Nd) (i : Nat) : i ≤ enI l i := Nat.le_trans (frI_ge l i) (yC _ _ _)
theorem zP : ∀ (f f' : Nat) (l : List Nd) (i : Nat), l.length - i ≤ f → l.length - i ≤ f' → qY f l i = qY f' l i
  | 0, 0, _, _, _, _ => rfl
  | 0, f' + 1, l, i, h, _ => by rw [qY, qY, if_neg (by omega)]
  | f + 1, 0, l, i, _, h => by rw [qY, qY, if_neg (by omega)]
  | f + 1, f' + 1, l, i, h, h' => by
    have := enI_ge l i
    rw [qY, qY, zP f f' l (i + 1) (by omega) (by omega), zP f f' l (enI l i + 1) (by omega) (by omega)]
def kG (l : List Nd) (i : Nat) : List Rl := qY (l.length - i) l i
theorem shtA_end {l : List Nd} {i : Nat} (h : ¬ i < l.length) : kG l i = [] := by rw [kG, show l.length - i = 0 by omega, qY]
theorem shtA_step {l : List Nd} {i : Nat} (h : i < l.length) : kG l i = if skB (wj l i) then kG l (i + 1) else emI l i ++ kG l (enI l i + 1) := by
  obtain ⟨f, hf⟩ : ∃ f, l.length - i = f + 1 := ⟨l.length - i - 1, by omega⟩
  have := enI_ge l i
  rw [kG, hf, qY, if_pos h, zP f (l.length - (i + 1)) l _ (by omega) (Nat.le_refl _), zP f (l.length - (enI l i + 1)) l _ (by omega) (Nat.le_refl _)]
  rfl
structure ShS (l : List Nd) where
  i : Nat
  out : List Rl
  hol : out.length ≤ i
  hi : i ≤ l.length + 1
  eq : out ++ kG l i = kG l 0
set_option maxHeartbeats 8000000 in
theorem sheet_ok (b : List UInt8) (hb : b.length ≤ 65536) (ht : ∀ n ∈ wV (yA (xX ⟨b.toArray⟩)) 0, n.tok.text.size ≤ 1099511627776) (hk : ∀ n ∈ wV (yA (xX ⟨b.toArray⟩)) 0, ∀ m ∈ n.kids, m.tok.text.size ≤ 1099511627776) (hr : (kG (wV (yA (xX ⟨b.toArray⟩)) 0) 0).length ≤ 500) : uV Tryd.prog 59 [.sl 1 (b.map bD)] (.tup [.sl 4 ((kG (wV (yA (xX ⟨b.toArray⟩)) 0) 0).map rlD), .val (.int .i64 0)]) := by
  refine u1 Tryd.func59 Tryd.ntmps59 rfl rfl rfl fun S w => ?_
  have hbm : (b.map bD).length = b.length := List.length_map _
  have hbig : ¬ (65536 : Int) < b.length := by omega
  repeat (first | refine uf ?_ | refine uc ?_ | refine ud ?_ | refine ug ?_ | (refine uk ?_; first | refine vf tab_ok rfl rfl rfl rfl rfl rfl rfl ?_ | refine ul tab_ok rfl rfl rfl rfl (by first | exact trivial | omega | exact nl rfl) rfl ?_))
  refine uz rfl (fun h => absurd h hbig) (fun _ => ?_)
  repeat (first | refine uf ?_ | refine ud ?_ | refine uq ?_ | (refine uk ?_; first | refine ul tab_ok rfl rfl rfl rfl (by first | exact trivial | omega | exact nl rfl) rfl ?_))
  refine um (refRead b (by omega)) call48 rfl rfl ⟨Sub.refl _, trivial⟩ rfl rfl rfl rfl ?_
  have hl1 := zU ⟨b.toArray⟩
  have hbs : (⟨b.toArray⟩ : ByteArray).size = b.length := List.size_toArray
  refine um (tokens_ok (xX ⟨b.toArray⟩) (by omega)) call47 rfl rfl ⟨Sub.refl _, trivial⟩ rfl rfl rfl rfl ?_
  have hl2 : (yA (xX ⟨b.toArray⟩)).length ≤ 65536 := by
    obtain ⟨r, j, h1, h2, h3, h4, h5⟩ := wM (zb (xX ⟨b.toArray⟩)) (xX ⟨b.toArray⟩).length 0 (Nat.zero_le _) (by omega)
    rw [yA]
    omega
  refine um (nodes_ok (yA (xX ⟨b.toArray⟩)) (by omega)) call46 rfl rfl ⟨Sub.refl _, trivial⟩ rfl rfl rfl rfl ?_
  have hl3 := nodesA_sz (yA (xX ⟨b.toArray⟩))
  generalize wV (yA (xX ⟨b.toArray⟩)) 0 = l at ht hk hr hl3 ⊢
  have hll := wa l
  have hlm : (l.map nF).length = l.length := List.length_map _
  repeat (first | refine uf ?_ | refine uc ?_ | refine uw ?_ | refine ud ?_ | refine ug ?_ | (refine uk ?_; first | refine ul tab_ok rfl rfl rfl rfl (by first | exact trivial | omega | exact nl rfl) rfl ?_))
  refine vk (σ := ShS l) (fun x => [.row 0 85 4 (x.out.map rlD)]) (fun x => [(4, .sl 7 (l.map nF)), (5, .row 0 0), (6, .val (.int .i64 x.i))]) (fun x => l.length + 1 - x.i) ⟨0, [], Nat.zero_le _, Nat.zero_le _, rfl⟩ (uK (by repeat' first | exact trivial | exact rfl | (rw [List.map_append]; first | done | rfl) | exact ue rfl (Sub.refl _) rfl | exact ut rfl rfl | exact uo rfl rfl rfl | exact uj rfl rfl rfl | exact uj rfl rfl (by rw [List.map_append]; first | done | rfl) | exact uh rfl rfl rfl rfl | exact Or.inl ⟨ue rfl (Sub.refl _) rfl, uh rfl rfl rfl rfl⟩ | exact uu rfl rfl rfl rfl | exact uC rfl rfl | exact uD rfl rfl | exact ue rfl (Sub.altl _ _) rfl | exact ue rfl (Sub.nil _) rfl | refine ⟨_, _, rfl, ?_, ?_⟩ | apply And.intro) (by repeat' first | exact trivial | exact rfl | (rw [List.map_append]; first | done | rfl) | exact ue rfl (Sub.refl _) rfl | exact ut rfl rfl | exact uo rfl rfl rfl | exact uj rfl rfl rfl | exact uj rfl rfl (by rw [List.map_append]; first | done | rfl) | exact uh rfl rfl rfl rfl | exact Or.inl ⟨ue rfl (Sub.refl _) rfl, uh rfl rfl rfl rfl⟩ | exact uu rfl rfl rfl rfl | exact uC rfl rfl | exact uD rfl rfl | exact ue rfl (Sub.altl _ _) rfl | exact ue rfl (Sub.nil _) rfl | refine ⟨_, _, rfl, ?_, ?_⟩ | apply And.intro)) ?_
  rintro ⟨i, out, hol, hi, heq⟩
  dsimp only
  have hom : (out.map rlD).length = out.length := List.length_map _
  repeat (first | refine uf ?_ | refine uc ?_ | refine ud ?_ | refine ug ?_ | (refine uk ?_; first | refine vf tab_ok rfl rfl rfl rfl rfl rfl rfl ?_ | refine ul tab_ok rfl rfl rfl rfl (by first | exact trivial | omega | exact nl rfl) rfl ?_))
  refine uz rfl (fun hlt => ?_) (fun hge => ?_)
  rotate_left
  · rw [shtA_end (by omega), List.append_nil] at heq
    rw [heq] at hom ⊢
    repeat (first | refine uf ?_ | refine uc ?_ | refine ud ?_ | refine uP ?_ | refine ug ?_ | (refine uk ?_; first | refine ul tab_ok rfl rfl rfl rfl (by first | exact trivial | omega | exact nl rfl) rfl ?_ | refine u9 tab_ok rfl rfl rfl rfl rfl ?_))
    refine uz rfl (fun h => absurd h (by omega)) (fun _ => ?_)
    repeat (first | refine uf ?_ | refine uc ?_ | refine ud ?_ | refine uq ?_ | refine ug ?_ | (refine uk ?_; first | refine ul tab_ok rfl rfl rfl rfl (by first | exact trivial | omega | exact nl rfl) rfl ?_))
    refine vM (s' := ⟨[.gone], [(2, .sl 4 ((kG l 0).map rlD)), (3, .val (.int .i64 0))]⟩) (uK (by repeat' first | exact trivial | exact rfl | (rw [List.map_append]; first | done | rfl) | exact ue rfl (Sub.refl _) rfl | exact ut rfl rfl | exact uo rfl rfl rfl | exact uj rfl rfl rfl | exact uj rfl rfl (by rw [List.map_append]; first | done | rfl) | exact uh rfl rfl rfl rfl | exact Or.inl ⟨ue rfl (Sub.refl _) rfl, uh rfl rfl rfl rfl⟩ | exact uu rfl rfl rfl rfl | exact uC rfl rfl | exact uD rfl rfl | exact ue rfl (Sub.altl _ _) rfl | exact ue rfl (Sub.nil _) rfl | refine ⟨_, _, rfl, ?_, ?_⟩ | apply And.intro) ⟨uo rfl rfl rfl, ue rfl (Sub.refl _) rfl, trivial⟩) ?_
    repeat (first | refine un ?_ | refine yp (by simp) rfl rfl rfl rfl ?_ ?_)
    all_goals exact Sub.refl _
  have hi' : i < l.length := by omega
  have hgi := wK hi'
  rw [shtA_step hi'] at heq
  obtain ⟨n, hn⟩ : ∃ n, wj l i = n := ⟨_, rfl⟩
  have hnt := ht n (by rw [← hn, ← hgi]; exact List.getElem_mem hi')
  simp only [hn] at heq hgi
  repeat (first | refine uf ?_ | refine uc ?_ | refine uw ?_ | refine ud ?_ | refine uq ?_ | refine ug ?_ | (refine uk ?_; first | refine ul tab_ok rfl rfl rfl rfl (by first | exact trivial | omega | exact nl rfl) rfl ?_ | refine u9 tab_ok rfl rfl rfl rfl rfl ?_ | refine wk tab_ok rfl rfl rfl rfl rfl rfl rfl (by first | exact ⟨by omega, by omega⟩ | (simp; omega)) rfl rfl ?_ | refine vI tab_ok rfl rfl rfl rfl rfl ?_ | refine u3 tab_ok rfl rfl rfl rfl ?_ | refine uB tab_ok rfl rfl rfl rfl rfl rfl (by first | exact fun _ => rfl | exact cs1 | exact cs2 | exact cs3) (by first | exact fun _ => trivial | (intro h; simp at h; omega)) rfl ?_ | refine vY tab_ok rfl rfl rfl rfl rfl rfl (by first | exact fun _ => rfl | exact cs1 | exact cs2 | exact cs3) rfl ?_ | refine we rfl rfl rfl rfl rfl rfl rfl rfl ?_))
  simp only [Int.toNat_natCast, hgi]
  refine uH rfl (fun hc => ?_) (fun hc => ?_)
  · rw [if_pos (show skB n = true from hc)] at heq
    repeat (first | refine uf ?_ | refine uc ?_ | refine ud ?_ | refine uP ?_ | refine vO ?_ | refine vP rfl ?_ | refine ug ?_ | (refine uk ?_; first | refine ul tab_ok rfl rfl rfl rfl (by first | exact trivial | omega | exact nl rfl) rfl ?_))
    exact ⟨⟨i + 1, out, by omega, by omega, heq⟩, by dsimp only; omega, vz 1 rfl rfl (by repeat' first | exact trivial | exact Sub.refl _ | exact rfl | apply And.intro)⟩
  rw [if_neg (by rw [show skB n = false from hc]; exact Bool.false_ne_true)] at heq
  cases ha : atKB n with
  | true =>
    have hfr : frI l i = i + 1 := by rw [frI, hn, ha]; rfl
    obtain ⟨kE, hkE⟩ : ∃ kE, kE = wI (goB true) l (i + 1) := ⟨_, rfl⟩
    have hen : enI l i = kE := by rw [enI, hfr, hn, ha, hkE]
    have hfl : i + 1 ≤ l.length := by omega
    have hkge : i + 1 ≤ kE := by rw [hkE]; exact yC _ _ _
    have hkle : kE ≤ l.length := by rw [hkE]; exact qu hfl
    rw [hen] at heq
    have hat3 : n.tok.kind = 3 := by simpa [atKB] using ha
    repeat (first | refine uf ?_ | refine uc ?_ | refine ud ?_ | refine uq ?_ | refine ug ?_ | (refine uk ?_; first | refine ul tab_ok rfl rfl rfl rfl (by first | exact trivial | omega | exact nl rfl) rfl ?_ | refine u9 tab_ok rfl rfl rfl rfl rfl ?_ | refine vI tab_ok rfl rfl rfl rfl rfl ?_))
    refine uz rfl (fun _ => ?_) (fun h => absurd hat3 h)
    repeat (first | refine uf ?_ | refine ud ?_ | (refine uk ?_; first | refine ul tab_ok rfl rfl rfl rfl (by first | exact trivial | omega | exact nl rfl) rfl ?_ | refine u9 tab_ok rfl rfl rfl rfl rfl ?_))
    refine um (zx n.tok.text (by omega)) call76 rfl rfl ⟨Sub.refl _, trivial⟩ rfl rfl rfl rfl ?_
    repeat (first | refine uf ?_ | refine uc ?_ | refine uw ?_ | refine ud ?_ | refine ug ?_ | (refine uk ?_; first | refine ul tab_ok rfl rfl rfl rfl (by first | exact trivial | omega | exact nl rfl) rfl ?_ | refine u3 tab_ok rfl rfl rfl rfl ?_))
    refine vk (σ := {k : Nat // i + 1 ≤ k ∧ k ≤ kE}) (fun _ => [.row 0 85 4 (out.map rlD), .box 78 [.val (.int .i64 n.tok.kind), .val (.string n.tok.text), .val (.int .i64 n.tok.int), .val (.bool n.tok.whole), .val (.bool n.tok.sign), .val (.bool n.tok.id)], .box 85 [.val (.string (v7 n.tok.text)), .val (.slice none 0 0), .val (.bool false), .val (.slice none 0 0)]]) (fun x => [(4, .sl 7 (l.map nF)), (5, .row 0 0), (8, .val (.bool true)), (9, .ptr 2 0), (10, .val (.int .i64 (x.1 : Nat))), (11, .val (.int .i64 (i + 1 : Nat)))]) (fun x => l.length - x.1) ⟨i + 1, Nat.le_refl _, hkge⟩ (uK (by repeat' first | exact trivial | exact rfl | (rw [List.map_append]; first | done | rfl) | exact ue rfl (Sub.refl _) rfl | exact ut rfl rfl | exact uo rfl rfl rfl | exact uj rfl rfl rfl | exact uj rfl rfl (by rw [List.map_append]; first | done | rfl) | exact uh rfl rfl rfl rfl | exact Or.inl ⟨ue rfl (Sub.refl _) rfl, uh rfl rfl rfl rfl⟩ | exact uu rfl rfl rfl rfl | exact uC rfl rfl | exact uD rfl rfl | exact ue rfl (Sub.altl _ _) rfl | exact ue rfl (Sub.nil _) rfl | refine ⟨_, _, rfl, ?_, ?_⟩ | apply And.intro) ⟨ue rfl (Sub.refl _) rfl, uj rfl rfl rfl, ue rfl (Sub.of_eq (congrArg (fun b => AV.val (.bool b)) (decide_eq_true hat3))) rfl, uh rfl rfl rfl rfl, ue rfl (Sub.refl _) rfl, ue rfl (Sub.refl _) rfl, trivial⟩) ?_
    rintro ⟨k, hik, hk0⟩
    dsimp only
    have hk1 : k ≤ wI (goB true) l (i + 1) := by rw [← hkE]; exact hk0
    rcases Nat.lt_or_ge k l.length with hkl | hkl
    · have hgk := wK hkl
      have hmore := yZ (p := goB true) hik hk1 hkl
      have hstop := fun h => zR (p := goB true) hik hk1 (fun _ => h)
      rw [← hkE] at hmore hstop
      obtain ⟨m, hm⟩ : ∃ m, wj l k = m := ⟨_, rfl⟩
      have hmt := hk m (by rw [← hm, ← hgk]; exact List.getElem_mem hkl)
      simp only [hm] at hgk hmore hstop
      repeat (first | refine uf ?_ | refine ud ?_ | (refine uk ?_; first | refine vf tab_ok rfl rfl rfl rfl rfl rfl rfl ?_ | refine ul tab_ok rfl rfl rfl rfl (by first | exact trivial | omega | exact nl rfl) rfl ?_ | refine uB tab_ok rfl rfl rfl rfl rfl rfl (by first | exact fun _ => rfl | exact cs1 | exact cs2 | exact cs3) (by first | exact fun _ => trivial | (intro h; simp at h; omega)) rfl ?_ | refine wd tab_ok rfl rfl rfl rfl rfl rfl rfl (by first | exact fun _ => rfl | exact cs1 | exact cs2 | exact cs3) rfl rfl (by exact ⟨by omega, by omega⟩) rfl rfl ?_))
      simp only [Int.toNat_natCast, hgk]
      try simp only [Int.toNat_natCast, hgk]
      refine vK (fun _ => y3 m) call74 rfl rfl rfl rfl (by first | exact fun _ => rfl | exact cs1 | exact cs2 | exact cs3) ⟨Sub.refl _, trivial⟩ rfl rfl rfl rfl ?_
      repeat (first | refine uc ?_ | refine ug ?_ | (refine uk ?_; first | refine ul tab_ok rfl rfl rfl rfl (by first | exact trivial | omega | exact nl rfl) rfl ?_ | refine uB tab_ok rfl rfl rfl rfl rfl rfl (by first | exact fun _ => rfl | exact cs1 | exact cs2 | exact cs3) (by first | exact fun _ => trivial | (intro h; simp at h; omega)) rfl ?_ | refine wd tab_ok rfl rfl rfl rfl rfl rfl rfl (by first | exact fun _ => rfl | exact cs1 | exact cs2 | exact cs3) rfl rfl (by exact ⟨by omega, by omega⟩) rfl rfl ?_ | refine zy rfl rfl rfl rfl rfl rfl rfl rfl rfl rfl ?_ | refine vN rfl rfl rfl rfl rfl rfl rfl rfl ?_))
      try simp only [Int.toNat_natCast, hgk]
      have hd : decide ((k : Int) < l.length) = true := decide_eq_true (by omega)
      refine uH rfl (fun hc => ?_) (fun hc => ?_)
      · rw [hd, Bool.true_and] at hc
        have hlt2 := hmore hc
        repeat (first | refine uc ?_ | refine uw ?_ | refine ud ?_ | refine uJ ?_ | refine uq ?_ | refine ug ?_ | (refine uk ?_; first | refine ul tab_ok rfl rfl rfl rfl (by first | exact trivial | omega | exact nl rfl) rfl ?_))
        exact ⟨⟨k + 1, by omega, hlt2⟩, by dsimp only; omega, vg rfl (by repeat' first | exact trivial | exact Sub.refl _ | exact rfl | apply And.intro)⟩
      · rw [hd, Bool.true_and] at hc
        have he := hstop hc
        clear hmore hstop hc
        subst he
        repeat (first | refine uf ?_ | refine ud ?_ | refine uP ?_ | (refine uk ?_; first | refine ul tab_ok rfl rfl rfl rfl (by first | exact trivial | omega | exact nl rfl) rfl ?_))
        refine y4 tab_ok rfl rfl rfl rfl rfl rfl rfl rfl (by show (0 : Int) ≤ (((i + 1) : Nat) : Int) ∧ (((i + 1) : Nat) : Int) ≤ ((k : Nat) : Int) ∧ ((k : Nat) : Int) ≤ (l.length : Int); omega) rfl ?_
        refine um (show uV Tryd.prog 85 [.sl 7 (((l.take ((k : Nat) : Int).toNat).drop ((((i + 1) : Nat) : Int)).toNat).map nF)] (.sl 7 ((vp ((l.take k).drop (i + 1))).map nF)) by
            simp only [Int.toNat_natCast]
            exact yo ((l.take k).drop (i + 1)) (by simp only [List.length_drop, List.length_take]; omega)) ql rfl rfl ⟨Sub.refl _, trivial⟩ rfl rfl rfl rfl ?_
        repeat (first | refine uf ?_ | refine ud ?_ | refine ug ?_ | (refine uk ?_; first | refine vf tab_ok rfl rfl rfl rfl rfl rfl rfl ?_ | refine ul tab_ok rfl rfl rfl rfl (by first | exact trivial | omega | exact nl rfl) rfl ?_ | refine u3 tab_ok rfl rfl rfl rfl ?_ | refine uB tab_ok rfl rfl rfl rfl rfl rfl (by first | exact fun _ => rfl | exact cs1 | exact cs2 | exact cs3) (by first | exact fun _ => trivial | (intro h; simp at h; omega)) rfl ?_ | refine wd tab_ok rfl rfl rfl rfl rfl rfl rfl (by first | exact fun _ => rfl | exact cs1 | exact cs2 | exact cs3) rfl rfl (by exact ⟨by omega, by omega⟩) rfl rfl ?_))
        simp only [Int.toNat_natCast, hgk]
        try simp only [Int.toNat_natCast, hgk]
        refine vK (fun _ => y3 m) call74 rfl rfl rfl rfl (by first | exact fun _ => rfl | exact cs1 | exact cs2 | exact cs3) ⟨Sub.refl _, trivial⟩ rfl rfl rfl rfl ?_
        rw [hd]
        cases hb : qM m with
        | true =>
          have hkl2 := qA hkl
          rw [hgk] at hkl2
          have hkl3 := wa m.kids
          repeat (first | refine uf ?_ | refine uc ?_ | refine ud ?_ | refine ug ?_ | (refine uk ?_; first | refine ul tab_ok rfl rfl rfl rfl (by first | exact trivial | omega | exact nl rfl) rfl ?_ | refine wk tab_ok rfl rfl rfl rfl rfl rfl rfl (by first | exact ⟨by omega, by omega⟩ | (simp; omega)) rfl rfl ?_ | refine u3 tab_ok rfl rfl rfl rfl ?_ | refine vN rfl rfl rfl rfl rfl rfl rfl rfl ?_) | refine uA rfl ?_)
          try simp only [Int.toNat_natCast, hgk]
          refine um (show uV Tryd.prog 51 [.sl 7 (m.kids.map nD)] (.sl 3 ((ye m.kids 0).map dcD)) by rw [nD_fun]; exact rdecls_ok m.kids (by omega) hmt) call51 rfl rfl ⟨Sub.refl _, trivial⟩ rfl rfl rfl rfl ?_
          have hbl : blI l k = true := by rw [blI, hm, hb, decide_eq_true hkl]; rfl
          have hrl : kc l i = ⟨(v7 n.tok.text), vp ((l.take k).drop (i + 1)), true, ye m.kids 0⟩ := by rw [kc, hen, hfr, hn, ha, hbl, hm]; rfl
          have hem : emI l i = [kc l i] := by rw [emI, hn, ha, hen, hbl]; rfl
          rw [hem, hrl] at heq
          repeat (first | refine uf ?_ | refine uc ?_ | refine ud ?_ | refine uJ ?_ | refine ug ?_ | (refine uk ?_; first | refine ul tab_ok rfl rfl rfl rfl (by first | exact trivial | omega | exact nl rfl) rfl ?_ | refine u9 tab_ok rfl rfl rfl rfl rfl ?_ | refine u3 tab_ok rfl rfl rfl rfl ?_ | refine uB tab_ok rfl rfl rfl rfl rfl rfl (by first | exact fun _ => rfl | exact cs1 | exact cs2 | exact cs3) (by first | exact fun _ => trivial | (intro h; simp at h; omega)) rfl ?_ | refine vY tab_ok rfl rfl rfl rfl rfl rfl (by first | exact fun _ => rfl | exact cs1 | exact cs2 | exact cs3) rfl ?_ | refine we rfl rfl rfl rfl rfl rfl rfl rfl ?_ | refine vd tab_ok rfl rfl rfl rfl rfl rfl rfl rfl rfl ?_ | refine vT tab_ok rfl rfl rfl rfl rfl rfl rfl rfl rfl (by first | omega | (simp; omega)) rfl ?_) | refine uA rfl ?_)
          refine ⟨⟨k + 1, out ++ [⟨(v7 n.tok.text), vp ((l.take k).drop (i + 1)), true, ye m.kids 0⟩], by simp; omega, by omega, by rw [List.append_assoc]; exact heq⟩, by dsimp only; omega, ?_⟩
          dsimp only
          rw [show (out ++ [(⟨(v7 n.tok.text), vp ((l.take k).drop (i + 1)), true, ye m.kids 0⟩ : Rl)]).map rlD = out.map rlD ++ [rlD ⟨(v7 n.tok.text), vp ((l.take k).drop (i + 1)), true, ye m.kids 0⟩] from List.map_append]
          exact wu (s' := ⟨[.row 0 85 4 (out.map rlD ++ [rlD ⟨(v7 n.tok.text), vp ((l.take k).drop (i + 1)), true, ye m.kids 0⟩]), .gone, .gone], [(4, .sl 7 (l.map nF)), (5, .row 0 0), (6, .val (.int .i64 (k + 1 : Nat)))]⟩) (uK (by repeat' first | exact trivial | exact rfl | (rw [List.map_append]; first | done | rfl) | exact ue rfl (Sub.refl _) rfl | exact ut rfl rfl | exact uo rfl rfl rfl | exact uj rfl rfl rfl | exact uj rfl rfl (by rw [List.map_append]; first | done | rfl) | exact uh rfl rfl rfl rfl | exact Or.inl ⟨ue rfl (Sub.refl _) rfl, uh rfl rfl rfl rfl⟩ | exact uu rfl rfl rfl rfl | exact uC rfl rfl | exact uD rfl rfl | exact ue rfl (Sub.altl _ _) rfl | exact ue rfl (Sub.nil _) rfl | refine ⟨_, _, rfl, ?_, ?_⟩ | apply And.intro) ⟨ue rfl (Sub.refl _) rfl, uj rfl rfl rfl, ue rfl (Sub.refl _) rfl, trivial⟩) (vz 1 rfl rfl (by repeat' first | exact trivial | exact Sub.refl _ | exact rfl | apply And.intro))
        | false =>
          have hbl : blI l k = false := by rw [blI, hm, hb, decide_eq_true hkl]; rfl
          have hrl : kc l i = ⟨(v7 n.tok.text), vp ((l.take k).drop (i + 1)), false, []⟩ := by rw [kc, hen, hfr, hn, ha, hbl]; rfl
          have hem : emI l i = [kc l i] := by rw [emI, hn, ha, hen, hbl]; rfl
          rw [hem, hrl] at heq
          repeat (first | refine uf ?_ | refine uc ?_ | refine uq ?_ | refine ug ?_ | (refine uk ?_; first | refine vN rfl rfl rfl rfl rfl rfl rfl rfl ?_) | refine uF rfl ?_)
          refine vM (s' := ⟨[.row 0 85 4 (out.map rlD), .box 78 [.val (.int .i64 n.tok.kind), .val (.string n.tok.text), .val (.int .i64 n.tok.int), .val (.bool n.tok.whole), .val (.bool n.tok.sign), .val (.bool n.tok.id)], .box 85 [.val (.string (v7 n.tok.text)), .sl 7 ((vp ((l.take k).drop (i + 1))).map nF), .val (.bool false), .sl 3 []]], [(4, .sl 7 (l.map nF)), (5, .row 0 0), (8, .val (.bool true)), (9, .ptr 2 0), (10, .val (.int .i64 (k : Nat)))]⟩) (uK (by repeat' first | exact trivial | exact rfl | (rw [List.map_append]; first | done | rfl) | exact ue rfl (Sub.refl _) rfl | exact ut rfl rfl | exact uo rfl rfl rfl | exact uj rfl rfl rfl | exact uj rfl rfl (by rw [List.map_append]; first | done | rfl) | exact uh rfl rfl rfl rfl | exact Or.inl ⟨ue rfl (Sub.refl _) rfl, uh rfl rfl rfl rfl⟩ | exact uu rfl rfl rfl rfl | exact uC rfl rfl | exact uD rfl rfl | exact ue rfl (Sub.altl _ _) rfl | exact ue rfl (Sub.nil _) rfl | refine ⟨_, _, rfl, ?_, ?_⟩ | apply And.intro) ⟨ue rfl (Sub.refl _) rfl, uj rfl rfl rfl, ue rfl (Sub.refl _) rfl, uh rfl rfl rfl rfl, ue rfl (Sub.refl _) rfl, trivial⟩) ?_
          repeat (first | refine uc ?_ | refine ud ?_ | refine uJ ?_ | refine ug ?_ | (refine uk ?_; first | refine ul tab_ok rfl rfl rfl rfl (by first | exact trivial | omega | exact nl rfl) rfl ?_ | refine u9 tab_ok rfl rfl rfl rfl rfl ?_ | refine uB tab_ok rfl rfl rfl rfl rfl rfl (by first | exact fun _ => rfl | exact cs1 | exact cs2 | exact cs3) (by first | exact fun _ => trivial | (intro h; simp at h; omega)) rfl ?_ | refine vY tab_ok rfl rfl rfl rfl rfl rfl (by first | exact fun _ => rfl | exact cs1 | exact cs2 | exact cs3) rfl ?_ | refine we rfl rfl rfl rfl rfl rfl rfl rfl ?_ | refine vd tab_ok rfl rfl rfl rfl rfl rfl rfl rfl rfl ?_ | refine vT tab_ok rfl rfl rfl rfl rfl rfl rfl rfl rfl (by first | omega | (simp; omega)) rfl ?_) | refine uA rfl ?_)
          refine ⟨⟨k + 1, out ++ [⟨(v7 n.tok.text), vp ((l.take k).drop (i + 1)), false, []⟩], by simp; omega, by omega, by rw [List.append_assoc]; exact heq⟩, by dsimp only; omega, ?_⟩
          dsimp only
          rw [show (out ++ [(⟨(v7 n.tok.text), vp ((l.take k).drop (i + 1)), false, []⟩ : Rl)]).map rlD = out.map rlD ++ [rlD ⟨(v7 n.tok.text), vp ((l.take k).drop (i + 1)), false, []⟩] from List.map_append]
          exact wu (s' := ⟨[.row 0 85 4 (out.map rlD ++ [rlD ⟨(v7 n.tok.text), vp ((l.take k).drop (i + 1)), false, []⟩]), .gone, .gone], [(4, .sl 7 (l.map nF)), (5, .row 0 0), (6, .val (.int .i64 (k + 1 : Nat)))]⟩) (uK (by repeat' first | exact trivial | exact rfl | (rw [List.map_append]; first | done | rfl) | exact ue rfl (Sub.refl _) rfl | exact ut rfl rfl | exact uo rfl rfl rfl | exact uj rfl rfl rfl | exact uj rfl rfl (by rw [List.map_append]; first | done | rfl) | exact uh rfl rfl rfl rfl | exact Or.inl ⟨ue rfl (Sub.refl _) rfl, uh rfl rfl rfl rfl⟩ | exact uu rfl rfl rfl rfl | exact uC rfl rfl | exact uD rfl rfl | exact ue rfl (Sub.altl _ _) rfl | exact ue rfl (Sub.nil _) rfl | refine ⟨_, _, rfl, ?_, ?_⟩ | apply And.intro) ⟨ue rfl (Sub.refl _) rfl, uj rfl rfl rfl, ue rfl (Sub.refl _) rfl, trivial⟩) (vz 1 rfl rfl (by repeat' first | exact trivial | exact Sub.refl _ | exact rfl | apply And.intro))
    · have he : k = kE := by omega
      subst he
      repeat (first | refine uf ?_ | refine ud ?_ | (refine uk ?_; first | refine vf tab_ok rfl rfl rfl rfl rfl rfl rfl ?_ | refine ul tab_ok rfl rfl rfl rfl (by first | exact trivial | omega | exact nl rfl) rfl ?_ | refine vG rfl rfl rfl rfl rfl rfl ?_) | refine uX rfl rfl (congrArg (fun b => AV.val (.bool b)) (decide_eq_false (by omega))) rfl rfl rfl rfl ?_ | refine vG rfl rfl (congrArg (fun b => AV.val (.bool b)) (decide_eq_false (by omega))) rfl rfl rfl ?_)
      repeat refine r_offu rfl rfl rfl rfl rfl rfl ?_
      repeat (first | refine uf ?_ | refine uc ?_ | refine ud ?_ | refine uP ?_ | refine ug ?_ | (refine uk ?_; first | refine ul tab_ok rfl rfl rfl rfl (by first | exact trivial | omega | exact nl rfl) rfl ?_ | refine uX rfl rfl rfl rfl rfl rfl rfl ?_ | refine vG rfl rfl rfl rfl rfl rfl ?_) | refine uF rfl ?_)
      refine y4 tab_ok rfl rfl rfl rfl rfl rfl rfl rfl (by show (0 : Int) ≤ (((i + 1) : Nat) : Int) ∧ (((i + 1) : Nat) : Int) ≤ ((k : Nat) : Int) ∧ ((k : Nat) : Int) ≤ (l.length : Int); omega) rfl ?_
      refine um (show uV Tryd.prog 85 [.sl 7 (((l.take ((k : Nat) : Int).toNat).drop ((((i + 1) : Nat) : Int)).toNat).map nF)] (.sl 7 ((vp ((l.take k).drop (i + 1))).map nF)) by
          simp only [Int.toNat_natCast]
          exact yo ((l.take k).drop (i + 1)) (by simp only [List.length_drop, List.length_take]; omega)) ql rfl rfl ⟨Sub.refl _, trivial⟩ rfl rfl rfl rfl ?_
      repeat (first | refine uf ?_ | refine ug ?_ | (refine uk ?_; first | refine ul tab_ok rfl rfl rfl rfl (by first | exact trivial | omega | exact nl rfl) rfl ?_ | refine u3 tab_ok rfl rfl rfl rfl ?_))
      refine ud ?_
      repeat (first | refine uf ?_ | refine uc ?_ | refine uq ?_ | refine ug ?_ | (refine uk ?_; first | refine vf tab_ok rfl rfl rfl rfl rfl rfl rfl ?_ | refine ul tab_ok rfl rfl rfl rfl (by first | exact trivial | omega | exact nl rfl) rfl ?_) | refine uF rfl ?_ | refine uX rfl rfl (congrArg (fun b => AV.val (.bool b)) (decide_eq_false (by omega))) rfl rfl rfl rfl ?_ | refine vG rfl rfl (congrArg (fun b => AV.val (.bool b)) (decide_eq_false (by omega))) rfl rfl rfl ?_)
      have hbl : blI l k = false := by rw [blI, decide_eq_false (by omega)]; rfl
      have hrl : kc l i = ⟨(v7 n.tok.text), vp ((l.take k).drop (i + 1)), false, []⟩ := by rw [kc, hen, hfr, hn, ha, hbl]; rfl
      have hem : emI l i = [kc l i] := by rw [emI, hn, ha, hen, hbl]; rfl
      rw [hem, hrl] at heq
      refine vM (s' := ⟨[.row 0 85 4 (out.map rlD), .box 78 [.val (.int .i64 n.tok.kind), .val (.string n.tok.text), .val (.int .i64 n.tok.int), .val (.bool n.tok.whole), .val (.bool n.tok.sign), .val (.bool n.tok.id)], .box 85 [.val (.string (v7 n.tok.text)), .sl 7 ((vp ((l.take k).drop (i + 1))).map nF), .val (.bool false), .sl 3 []]], [(4, .sl 7 (l.map nF)), (5, .row 0 0), (8, .val (.bool true)), (9, .ptr 2 0), (10, .val (.int .i64 (k : Nat)))]⟩) (uK (by repeat' first | exact trivial | exact rfl | (rw [List.map_append]; first | done | rfl) | exact ue rfl (Sub.refl _) rfl | exact ut rfl rfl | exact uo rfl rfl rfl | exact uj rfl rfl rfl | exact uj rfl rfl (by rw [List.map_append]; first | done | rfl) | exact uh rfl rfl rfl rfl | exact Or.inl ⟨ue rfl (Sub.refl _) rfl, uh rfl rfl rfl rfl⟩ | exact uu rfl rfl rfl rfl | exact uC rfl rfl | exact uD rfl rfl | exact ue rfl (Sub.altl _ _) rfl | exact ue rfl (Sub.nil _) rfl | refine ⟨_, _, rfl, ?_, ?_⟩ | apply And.intro) ⟨ue rfl (Sub.refl _) rfl, uj rfl rfl rfl, ue rfl (Sub.refl _) rfl, uh rfl rfl rfl rfl, ue rfl (Sub.refl _) rfl, trivial⟩) ?_
      repeat (first | refine uc ?_ | refine ud ?_ | refine uJ ?_ | refine ug ?_ | (refine uk ?_; first | refine ul tab_ok rfl rfl rfl rfl (by first | exact trivial | omega | exact nl rfl) rfl ?_ | refine u9 tab_ok rfl rfl rfl rfl rfl ?_ | refine uB tab_ok rfl rfl rfl rfl rfl rfl (by first | exact fun _ => rfl | exact cs1 | exact cs2 | exact cs3) (by first | exact fun _ => trivial | (intro h; simp at h; omega)) rfl ?_ | refine vY tab_ok rfl rfl rfl rfl rfl rfl (by first | exact fun _ => rfl | exact cs1 | exact cs2 | exact cs3) rfl ?_ | refine we rfl rfl rfl rfl rfl rfl rfl rfl ?_ | refine vd tab_ok rfl rfl rfl rfl rfl rfl rfl rfl rfl ?_ | refine vT tab_ok rfl rfl rfl rfl rfl rfl rfl rfl rfl (by first | omega | (simp; omega)) rfl ?_) | refine uA rfl ?_)
      refine ⟨⟨k + 1, out ++ [⟨(v7 n.tok.text), vp ((l.take k).drop (i + 1)), false, []⟩], by simp; omega, by omega, by rw [List.append_assoc]; exact heq⟩, by dsimp only; omega, ?_⟩
      dsimp only
      rw [show (out ++ [(⟨(v7 n.tok.text), vp ((l.take k).drop (i + 1)), false, []⟩ : Rl)]).map rlD = out.map rlD ++ [rlD ⟨(v7 n.tok.text), vp ((l.take k).drop (i + 1)), false, []⟩] from List.map_append]
      exact wu (s' := ⟨[.row 0 85 4 (out.map rlD ++ [rlD ⟨(v7 n.tok.text), vp ((l.take k).drop (i + 1)), false, []⟩]), .gone, .gone], [(4, .sl 7 (l.map nF)), (5, .row 0 0), (6, .val (.int .i64 (k + 1 : Nat)))]⟩) (uK (by repeat' first | exact trivial | exact rfl | (rw [List.map_append]; first | done | rfl) | exact ue rfl (Sub.refl _) rfl | exact ut rfl rfl | exact uo rfl rfl rfl | exact uj rfl rfl rfl | exact uj rfl rfl (by rw [List.map_append]; first | done | rfl) | exact uh rfl rfl rfl rfl | exact Or.inl ⟨ue rfl (Sub.refl _) rfl, uh rfl rfl rfl rfl⟩ | exact uu rfl rfl rfl rfl | exact uC rfl rfl | exact uD rfl rfl | exact ue rfl (Sub.altl _ _) rfl | exact ue rfl (Sub.nil _) rfl | refine ⟨_, _, rfl, ?_, ?_⟩ | apply And.intro) ⟨ue rfl (Sub.refl _) rfl, uj rfl rfl rfl, ue rfl (Sub.refl _) rfl, trivial⟩) (vz 1 rfl rfl (by repeat' first | exact trivial | exact Sub.refl _ | exact rfl | apply And.intro))
  | false =>
    have hfr : frI l i = i := by rw [frI, hn, ha]; rfl
    obtain ⟨kE, hkE⟩ : ∃ kE, kE = wI (goB false) l (i) := ⟨_, rfl⟩
    have hen : enI l i = kE := by rw [enI, hfr, hn, ha, hkE]
    have hfl : i ≤ l.length := by omega
    have hkge : i ≤ kE := by rw [hkE]; exact yC _ _ _
    have hkle : kE ≤ l.length := by rw [hkE]; exact qu hfl
    rw [hen] at heq
    have hat3 : ¬ n.tok.kind = 3 := by simpa [atKB] using ha
    repeat (first | refine uf ?_ | refine uc ?_ | refine ud ?_ | refine uq ?_ | refine ug ?_ | (refine uk ?_; first | refine ul tab_ok rfl rfl rfl rfl (by first | exact trivial | omega | exact nl rfl) rfl ?_ | refine u9 tab_ok rfl rfl rfl rfl rfl ?_ | refine vI tab_ok rfl rfl rfl rfl rfl ?_))
    refine uz rfl (fun h => absurd h hat3) (fun _ => ?_)
    repeat (first | refine uf ?_ | refine uw ?_ | refine ud ?_ | refine uq ?_ | refine ug ?_ | (refine uk ?_; first | refine ul tab_ok rfl rfl rfl rfl (by first | exact trivial | omega | exact nl rfl) rfl ?_))
    refine vk (σ := {k : Nat // i ≤ k ∧ k ≤ kE}) (fun _ => [.row 0 85 4 (out.map rlD), .box 78 [.val (.int .i64 n.tok.kind), .val (.string n.tok.text), .val (.int .i64 n.tok.int), .val (.bool n.tok.whole), .val (.bool n.tok.sign), .val (.bool n.tok.id)], .box 85 [.val (.string ⟨#[]⟩), .val (.slice none 0 0), .val (.bool false), .val (.slice none 0 0)]]) (fun x => [(4, .sl 7 (l.map nF)), (5, .row 0 0), (8, .val (.bool false)), (9, .ptr 2 0), (10, .val (.int .i64 (x.1 : Nat))), (11, .val (.int .i64 (i : Nat)))]) (fun x => l.length - x.1) ⟨i, Nat.le_refl _, hkge⟩ (uK (by repeat' first | exact trivial | exact rfl | (rw [List.map_append]; first | done | rfl) | exact ue rfl (Sub.refl _) rfl | exact ut rfl rfl | exact uo rfl rfl rfl | exact uj rfl rfl rfl | exact uj rfl rfl (by rw [List.map_append]; first | done | rfl) | exact uh rfl rfl rfl rfl | exact Or.inl ⟨ue rfl (Sub.refl _) rfl, uh rfl rfl rfl rfl⟩ | exact uu rfl rfl rfl rfl | exact uC rfl rfl | exact uD rfl rfl | exact ue rfl (Sub.altl _ _) rfl | exact ue rfl (Sub.nil _) rfl | refine ⟨_, _, rfl, ?_, ?_⟩ | apply And.intro) ⟨ue rfl (Sub.refl _) rfl, uj rfl rfl rfl, ue rfl (Sub.of_eq (congrArg (fun b => AV.val (.bool b)) (decide_eq_false hat3))) rfl, uh rfl rfl rfl rfl, ue rfl (Sub.refl _) rfl, ue rfl (Sub.refl _) rfl, trivial⟩) ?_
    rintro ⟨k, hik, hk0⟩
    dsimp only
    have hk1 : k ≤ wI (goB false) l (i) := by rw [← hkE]; exact hk0
    rcases Nat.lt_or_ge k l.length with hkl | hkl
    · have hgk := wK hkl
      have hmore := yZ (p := goB false) hik hk1 hkl
      have hstop := fun h => zR (p := goB false) hik hk1 (fun _ => h)
      rw [← hkE] at hmore hstop
      obtain ⟨m, hm⟩ : ∃ m, wj l k = m := ⟨_, rfl⟩
      have hmt := hk m (by rw [← hm, ← hgk]; exact List.getElem_mem hkl)
      simp only [hm] at hgk hmore hstop
      repeat (first | refine uf ?_ | refine ud ?_ | (refine uk ?_; first | refine vf tab_ok rfl rfl rfl rfl rfl rfl rfl ?_ | refine ul tab_ok rfl rfl rfl rfl (by first | exact trivial | omega | exact nl rfl) rfl ?_ | refine uB tab_ok rfl rfl rfl rfl rfl rfl (by first | exact fun _ => rfl | exact cs1 | exact cs2 | exact cs3) (by first | exact fun _ => trivial | (intro h; simp at h; omega)) rfl ?_ | refine wd tab_ok rfl rfl rfl rfl rfl rfl rfl (by first | exact fun _ => rfl | exact cs1 | exact cs2 | exact cs3) rfl rfl (by exact ⟨by omega, by omega⟩) rfl rfl ?_))
      simp only [Int.toNat_natCast, hgk]
      try simp only [Int.toNat_natCast, hgk]
      refine vK (fun _ => y3 m) call74 rfl rfl rfl rfl (by first | exact fun _ => rfl | exact cs1 | exact cs2 | exact cs3) ⟨Sub.refl _, trivial⟩ rfl rfl rfl rfl ?_
      repeat (first | refine uc ?_ | refine ug ?_ | (refine uk ?_; first | refine ul tab_ok rfl rfl rfl rfl (by first | exact trivial | omega | exact nl rfl) rfl ?_ | refine uB tab_ok rfl rfl rfl rfl rfl rfl (by first | exact fun _ => rfl | exact cs1 | exact cs2 | exact cs3) (by first | exact fun _ => trivial | (intro h; simp at h; omega)) rfl ?_ | refine wd tab_ok rfl rfl rfl rfl rfl rfl rfl (by first | exact fun _ => rfl | exact cs1 | exact cs2 | exact cs3) rfl rfl (by exact ⟨by omega, by omega⟩) rfl rfl ?_ | refine zy rfl rfl rfl rfl rfl rfl rfl rfl rfl rfl ?_ | refine vN rfl rfl rfl rfl rfl rfl rfl rfl ?_))
      try simp only [Int.toNat_natCast, hgk]
      have hd : decide ((k : Int) < l.length) = true := decide_eq_true (by omega)
      refine uH rfl (fun hc => ?_) (fun hc => ?_)
      · rw [hd, Bool.true_and] at hc
        have hlt2 := hmore hc
        repeat (first | refine uc ?_ | refine uw ?_ | refine ud ?_ | refine uJ ?_ | refine uq ?_ | refine ug ?_ | (refine uk ?_; first | refine ul tab_ok rfl rfl rfl rfl (by first | exact trivial | omega | exact nl rfl) rfl ?_))
        exact ⟨⟨k + 1, by omega, hlt2⟩, by dsimp only; omega, vg rfl (by repeat' first | exact trivial | exact Sub.refl _ | exact rfl | apply And.intro)⟩
      · rw [hd, Bool.true_and] at hc
        have he := hstop hc
        clear hmore hstop hc
        subst he
        repeat (first | refine uf ?_ | refine ud ?_ | refine uP ?_ | (refine uk ?_; first | refine ul tab_ok rfl rfl rfl rfl (by first | exact trivial | omega | exact nl rfl) rfl ?_))
        refine y4 tab_ok rfl rfl rfl rfl rfl rfl rfl rfl (by show (0 : Int) ≤ ((i : Nat) : Int) ∧ ((i : Nat) : Int) ≤ ((k : Nat) : Int) ∧ ((k : Nat) : Int) ≤ (l.length : Int); omega) rfl ?_
        refine um (show uV Tryd.prog 85 [.sl 7 (((l.take ((k : Nat) : Int).toNat).drop (((i : Nat) : Int)).toNat).map nF)] (.sl 7 ((vp ((l.take k).drop i)).map nF)) by
            simp only [Int.toNat_natCast]
            exact yo ((l.take k).drop i) (by simp only [List.length_drop, List.length_take]; omega)) ql rfl rfl ⟨Sub.refl _, trivial⟩ rfl rfl rfl rfl ?_
        repeat (first | refine uf ?_ | refine ud ?_ | refine ug ?_ | (refine uk ?_; first | refine vf tab_ok rfl rfl rfl rfl rfl rfl rfl ?_ | refine ul tab_ok rfl rfl rfl rfl (by first | exact trivial | omega | exact nl rfl) rfl ?_ | refine u3 tab_ok rfl rfl rfl rfl ?_ | refine uB tab_ok rfl rfl rfl rfl rfl rfl (by first | exact fun _ => rfl | exact cs1 | exact cs2 | exact cs3) (by first | exact fun _ => trivial | (intro h; simp at h; omega)) rfl ?_ | refine wd tab_ok rfl rfl rfl rfl rfl rfl rfl (by first | exact fun _ => rfl | exact cs1 | exact cs2 | exact cs3) rfl rfl (by exact ⟨by omega, by omega⟩) rfl rfl ?_))
        simp only [Int.toNat_natCast, hgk]
        try simp only [Int.toNat_natCast, hgk]
        refine vK (fun _ => y3 m) call74 rfl rfl rfl rfl (by first | exact fun _ => rfl | exact cs1 | exact cs2 | exact cs3) ⟨Sub.refl _, trivial⟩ rfl rfl rfl rfl ?_
        rw [hd]
        cases hb : qM m with
        | true =>
          have hkl2 := qA hkl
          rw [hgk] at hkl2
          have hkl3 := wa m.kids
          repeat (first | refine uf ?_ | refine uc ?_ | refine ud ?_ | refine ug ?_ | (refine uk ?_; first | refine ul tab_ok rfl rfl rfl rfl (by first | exact trivial | omega | exact nl rfl) rfl ?_ | refine wk tab_ok rfl rfl rfl rfl rfl rfl rfl (by first | exact ⟨by omega, by omega⟩ | (simp; omega)) rfl rfl ?_ | refine u3 tab_ok rfl rfl rfl rfl ?_ | refine vN rfl rfl rfl rfl rfl rfl rfl rfl ?_) | refine uA rfl ?_)
          try simp only [Int.toNat_natCast, hgk]
          refine um (show uV Tryd.prog 51 [.sl 7 (m.kids.map nD)] (.sl 3 ((ye m.kids 0).map dcD)) by rw [nD_fun]; exact rdecls_ok m.kids (by omega) hmt) call51 rfl rfl ⟨Sub.refl _, trivial⟩ rfl rfl rfl rfl ?_
          have hbl : blI l k = true := by rw [blI, hm, hb, decide_eq_true hkl]; rfl
          have hrl : kc l i = ⟨⟨#[]⟩, vp ((l.take k).drop i), true, ye m.kids 0⟩ := by rw [kc, hen, hfr, hn, ha, hbl, hm]; rfl
          have hem : emI l i = [kc l i] := by rw [emI, hn, ha, hen, hbl]; rfl
          rw [hem, hrl] at heq
          repeat (first | refine uf ?_ | refine uc ?_ | refine ud ?_ | refine uJ ?_ | refine ug ?_ | (refine uk ?_; first | refine ul tab_ok rfl rfl rfl rfl (by first | exact trivial | omega | exact nl rfl) rfl ?_ | refine u9 tab_ok rfl rfl rfl rfl rfl ?_ | refine u3 tab_ok rfl rfl rfl rfl ?_ | refine uB tab_ok rfl rfl rfl rfl rfl rfl (by first | exact fun _ => rfl | exact cs1 | exact cs2 | exact cs3) (by first | exact fun _ => trivial | (intro h; simp at h; omega)) rfl ?_ | refine vY tab_ok rfl rfl rfl rfl rfl rfl (by first | exact fun _ => rfl | exact cs1 | exact cs2 | exact cs3) rfl ?_ | refine we rfl rfl rfl rfl rfl rfl rfl rfl ?_ | refine vd tab_ok rfl rfl rfl rfl rfl rfl rfl rfl rfl ?_ | refine vT tab_ok rfl rfl rfl rfl rfl rfl rfl rfl rfl (by first | omega | (simp; omega)) rfl ?_) | refine uA rfl ?_)
          refine ⟨⟨k + 1, out ++ [⟨⟨#[]⟩, vp ((l.take k).drop i), true, ye m.kids 0⟩], by simp; omega, by omega, by rw [List.append_assoc]; exact heq⟩, by dsimp only; omega, ?_⟩
          dsimp only
          rw [show (out ++ [(⟨⟨#[]⟩, vp ((l.take k).drop i), true, ye m.kids 0⟩ : Rl)]).map rlD = out.map rlD ++ [rlD ⟨⟨#[]⟩, vp ((l.take k).drop i), true, ye m.kids 0⟩] from List.map_append]
          exact wu (s' := ⟨[.row 0 85 4 (out.map rlD ++ [rlD ⟨⟨#[]⟩, vp ((l.take k).drop i), true, ye m.kids 0⟩]), .gone, .gone], [(4, .sl 7 (l.map nF)), (5, .row 0 0), (6, .val (.int .i64 (k + 1 : Nat)))]⟩) (uK (by repeat' first | exact trivial | exact rfl | (rw [List.map_append]; first | done | rfl) | exact ue rfl (Sub.refl _) rfl | exact ut rfl rfl | exact uo rfl rfl rfl | exact uj rfl rfl rfl | exact uj rfl rfl (by rw [List.map_append]; first | done | rfl) | exact uh rfl rfl rfl rfl | exact Or.inl ⟨ue rfl (Sub.refl _) rfl, uh rfl rfl rfl rfl⟩ | exact uu rfl rfl rfl rfl | exact uC rfl rfl | exact uD rfl rfl | exact ue rfl (Sub.altl _ _) rfl | exact ue rfl (Sub.nil _) rfl | refine ⟨_, _, rfl, ?_, ?_⟩ | apply And.intro) ⟨ue rfl (Sub.refl _) rfl, uj rfl rfl rfl, ue rfl (Sub.refl _) rfl, trivial⟩) (vz 1 rfl rfl (by repeat' first | exact trivial | exact Sub.refl _ | exact rfl | apply And.intro))
        | false =>
          have hbl : blI l k = false := by rw [blI, hm, hb, decide_eq_true hkl]; rfl
          have hem : emI l i = [] := by rw [emI, hn, ha, hen, hbl]; rfl
          rw [hem, List.nil_append] at heq
          repeat (first | refine uf ?_ | refine uc ?_ | refine ud ?_ | refine uJ ?_ | refine uq ?_ | refine ug ?_ | (refine uk ?_; first | refine ul tab_ok rfl rfl rfl rfl (by first | exact trivial | omega | exact nl rfl) rfl ?_ | refine uB tab_ok rfl rfl rfl rfl rfl rfl (by first | exact fun _ => rfl | exact cs1 | exact cs2 | exact cs3) (by first | exact fun _ => trivial | (intro h; simp at h; omega)) rfl ?_ | refine vY tab_ok rfl rfl rfl rfl rfl rfl (by first | exact fun _ => rfl | exact cs1 | exact cs2 | exact cs3) rfl ?_ | refine we rfl rfl rfl rfl rfl rfl rfl rfl ?_ | refine vN rfl rfl rfl rfl rfl rfl rfl rfl ?_) | refine uF rfl ?_)
          exact ⟨⟨k + 1, out, by omega, by omega, heq⟩, by dsimp only; omega, vz 1 rfl rfl (by repeat' first | exact trivial | exact Sub.refl _ | exact rfl | apply And.intro)⟩
    · have he : k = kE := by omega
      subst he
      repeat (first | refine uf ?_ | refine ud ?_ | (refine uk ?_; first | refine vf tab_ok rfl rfl rfl rfl rfl rfl rfl ?_ | refine ul tab_ok rfl rfl rfl rfl (by first | exact trivial | omega | exact nl rfl) rfl ?_ | refine vG rfl rfl rfl rfl rfl rfl ?_) | refine uX rfl rfl (congrArg (fun b => AV.val (.bool b)) (decide_eq_false (by omega))) rfl rfl rfl rfl ?_ | refine vG rfl rfl (congrArg (fun b => AV.val (.bool b)) (decide_eq_false (by omega))) rfl rfl rfl ?_)
      repeat refine r_offu rfl rfl rfl rfl rfl rfl ?_
      repeat (first | refine uf ?_ | refine uc ?_ | refine ud ?_ | refine uP ?_ | refine ug ?_ | (refine uk ?_; first | refine ul tab_ok rfl rfl rfl rfl (by first | exact trivial | omega | exact nl rfl) rfl ?_ | refine uX rfl rfl rfl rfl rfl rfl rfl ?_ | refine vG rfl rfl rfl rfl rfl rfl ?_) | refine uF rfl ?_)
      refine y4 tab_ok rfl rfl rfl rfl rfl rfl rfl rfl (by show (0 : Int) ≤ ((i : Nat) : Int) ∧ ((i : Nat) : Int) ≤ ((k : Nat) : Int) ∧ ((k : Nat) : Int) ≤ (l.length : Int); omega) rfl ?_
      refine um (show uV Tryd.prog 85 [.sl 7 (((l.take ((k : Nat) : Int).toNat).drop (((i : Nat) : Int)).toNat).map nF)] (.sl 7 ((vp ((l.take k).drop i)).map nF)) by
          simp only [Int.toNat_natCast]
          exact yo ((l.take k).drop i) (by simp only [List.length_drop, List.length_take]; omega)) ql rfl rfl ⟨Sub.refl _, trivial⟩ rfl rfl rfl rfl ?_
      repeat (first | refine uf ?_ | refine uc ?_ | refine ud ?_ | refine uJ ?_ | refine uq ?_ | refine ug ?_ | (refine uk ?_; first | refine vf tab_ok rfl rfl rfl rfl rfl rfl rfl ?_ | refine ul tab_ok rfl rfl rfl rfl (by first | exact trivial | omega | exact nl rfl) rfl ?_ | refine u3 tab_ok rfl rfl rfl rfl ?_ | refine uX rfl rfl rfl rfl rfl rfl rfl ?_ | refine u2 tab_ok rfl rfl rfl rfl rfl rfl (by first | exact trivial | omega) rfl ?_ | refine wP tab_ok rfl rfl rfl rfl rfl rfl rfl ?_) | refine uF rfl ?_ | refine uX rfl rfl (congrArg (fun b => AV.val (.bool b)) (decide_eq_false (by omega))) rfl rfl rfl rfl ?_ | refine vG rfl rfl (congrArg (fun b => AV.val (.bool b)) (decide_eq_false (by omega))) rfl rfl rfl ?_)
      have hbl : blI l k = false := by rw [blI, decide_eq_false (by omega)]; rfl
      have hem : emI l i = [] := by rw [emI, hn, ha, hen, hbl]; rfl
      rw [hem, List.nil_append] at heq
      exact ⟨⟨k + 1, out, by omega, by omega, heq⟩, by dsimp only; omega, vz 1 rfl rfl (by repeat' first | exact trivial | exact Sub.refl _ | exact rfl | apply And.intro)⟩
end Go.Proofs.YtllmagfmbglefaaDoor
