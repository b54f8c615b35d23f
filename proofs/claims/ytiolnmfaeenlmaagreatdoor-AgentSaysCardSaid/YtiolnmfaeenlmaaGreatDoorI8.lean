import Derived.Test.YtiolnmfaeenlmaaGreatDoorU5
import Derived.Test.YtiolnmfaeenlmaaGreatDoorF4
import Derived.Test.YtiolnmfaeenlmaaGreatDoorL0
import Derived.Test.YtiolnmfaeenlmaaGreatDoorWd
import Derived.Test.YtiolnmfaeenlmaaGreatDoorJa
/- nest.Copy as one handed back; slices.IndexFunc, DeleteFunc over nodes; nest.Tight. -/
namespace Go.Proofs.YtiolnmfaeenlmaaGreatDoor
open Go Go.RowKit
set_option maxRecDepth 20000

/-- The node that says nothing. -/
def nZ : D := .ag [.val (.int .i64 0), .val (.string ⟨#[]⟩), .val (.int .i64 0), .val (.bool false), .val (.bool false), .val (.bool false), .sl 7 []]
theorem findN_ok (l : List Nd) (p : Nd → Bool) (f : FuncId) (caps : List AV) (hl : l.length ≤ 4611686018427387904) (hcall : Callable Tryz.prog f) (hcf : AV.frees caps = true) (hp : ∀ s ∈ l, PCalls Tryz.prog f (nA s :: caps) (.val (.bool (p s)))) :
    PCalls Tryz.prog 60 [.sl 7 (l.map nF), .cl f caps] (.val (.int .i64 (findR p l))) := by
  refine p_start Tryz.func60 Tryz.ntmps60 rfl rfl rfl fun S w => ?_
  repeat (first | refine awp_seq ?_ | refine thenA_normal ?_ | refine awp_block ?_ | refine a_region ?_ | refine r_done ?_ | (refine r_id ?_; first | refine r_len tab_ok rfl rfl rfl rfl rfl rfl rfl ?_ | refine r_ev tab_ok rfl rfl rfl rfl byE rfl ?_))
  refine a_loop (σ := {i : Nat // i ≤ l.findIdx p}) (fun _ => []) (fun x => [(0, .sl 7 (l.map nF)), (1, .cl f caps), (7, .val (.int .i64 l.length)), (8, .val (.int .i64 x.1))]) (fun x => l.length - x.1) ⟨0, Nat.zero_le _⟩
    (fits_of rfl ⟨Sub.refl _, Sub.refl _, Sub.refl _, Sub.refl _, trivial⟩) ?_
  rintro ⟨i, hi⟩
  dsimp only
  have hle := List.findIdx_le_length (p := p) (xs := l)
  repeat (first | refine awp_seq ?_ | refine a_region ?_ | refine r_done ?_ | (refine r_id ?_; first | refine r_ev tab_ok rfl rfl rfl rfl byE rfl ?_))
  refine awp_cond_p rfl (fun hlt => ?_) (fun hge => ?_)
  · have hi' : i < l.length := by omega
    repeat (first | refine awp_seq ?_ | refine awp_block ?_ | refine a_region ?_ | refine awp_skip ?_ | refine r_done ?_ | (refine r_id ?_; first | refine r_ev tab_ok rfl rfl rfl rfl byE rfl ?_ | refine r_idx tab_ok rfl rfl rfl rfl rfl rfl rfl (by first | exact ⟨by omega, by omega⟩ | (simp; omega)) rfl rfl ?_))
    simp only [Int.toNat_natCast]
    refine r_callv (hp l[i] (List.getElem_mem hi')) hcall rfl rfl rfl ⟨Sub.refl _, subs_refl _⟩ (by simp [nA, ncl, AV.frees, AV.free, hcf]) rfl rfl rfl ?_
    repeat (first | refine thenA_normal ?_ | refine r_done ?_)
    refine awp_cond rfl (fun hb => ?_) (fun hb => ?_)
    · repeat (first | refine awp_seq ?_ | refine thenA_normal ?_ | refine a_region ?_ | refine awp_ret ?_ | refine thenA_ret ?_ | refine blockA_ret ?_ | refine r_done ?_ | (refine r_id ?_; first | refine r_ev tab_ok rfl rfl rfl rfl byE rfl ?_) | refine ret1 byO rfl rfl rfl ?_)
      have : l.findIdx p = i := by
        rcases Nat.lt_or_eq_of_le hi with h | h
        · have := List.not_of_lt_findIdx h
          simp_all
        · exact h.symm
      exact Sub.of_eq (by rw [findR, if_pos (by omega), this])
    · have : l.findIdx p ≠ i := fun h => by
        have := List.findIdx_getElem (p := p) (xs := l) (w := by omega)
        simp only [h] at this
        simp_all
      repeat (first | refine thenA_normal ?_ | refine a_region ?_ | refine awp_skip ?_ | refine r_done ?_ | (refine r_id ?_; first | refine r_ev tab_ok rfl rfl rfl rfl byE rfl ?_))
      exact ⟨⟨i + 1, by omega⟩, by dsimp only; omega, fits_of rfl ⟨Sub.refl _, Sub.refl _, Sub.refl _, Sub.refl _, trivial⟩⟩
  · repeat (first | refine awp_seq ?_ | refine thenA_normal ?_ | refine a_region ?_ | refine awp_ret ?_ | refine awp_exit ?_ | refine r_done ?_ | (refine r_id ?_; first | refine r_ev tab_ok rfl rfl rfl rfl byE rfl ?_) | refine ret1 byO rfl rfl rfl ?_)
    exact Sub.of_eq (by rw [findR, if_neg (by omega)])
/-- A row while elements are struck out. -/
structure DSn (p : Nd → Bool) (l : List Nd) where
  j : Nat
  X : List Nd
  hj : j ≤ l.length
  hl : ((l.take j).filter (fun x => !p x)).length + X.length = j
  hX : 0 < X.length
def DSn.K {p : Nd → Bool} {l : List Nd} (x : DSn p l) : List Nd := (l.take x.j).filter (fun x => !p x)
def DSn.cur {p : Nd → Bool} {l : List Nd} (x : DSn p l) : List Nd := x.K ++ (x.X ++ l.drop x.j)
end Go.Proofs.YtiolnmfaeenlmaaGreatDoor

/- define.among, Canon, Name; prop.style, listType; walked. -/
namespace Go.Proofs.YtiolnmfaeenlmaaGreatDoor
open Go Go.RowKit
set_option maxRecDepth 20000

theorem bnot_t {p : Prop} [Decidable p] (h : p) : (!decide p) = false := by rw [decide_eq_true h]; rfl
theorem bnot_f {p : Prop} [Decidable p] (h : ¬ p) : (!decide p) = true := by rw [decide_eq_false h]; rfl
def amgF (all w : ByteArray) : Bool := (fldF all).any fun x => decide (w = x)
def ownN : ByteArray := ⟨([100, 101, 99, 105, 109, 97, 108, 32, 100, 101, 99, 105, 109, 97, 108, 45, 108, 101, 97, 100, 105, 110, 103, 45, 122, 101, 114, 111, 32, 108, 111, 119, 101, 114, 45, 97, 108, 112, 104, 97, 32, 117, 112, 112, 101, 114, 45, 97, 108, 112, 104, 97, 32].append [108, 111, 119, 101, 114, 45, 114, 111, 109, 97, 110, 32, 117, 112, 112, 101, 114, 45, 114, 111, 109, 97, 110, 32, 108, 111, 119, 101, 114, 45, 103, 114, 101, 101, 107, 32, 100, 105, 115, 99, 32, 99, 105, 114, 99, 108, 101, 32, 115, 113, 117, 97, 114, 101]).toArray⟩
def canF (s : ByteArray) : ByteArray := if amgF ownN (lowS s) then lowS s else s
theorem trimF_sz (l : List Nd) : nszs (trimF l) ≤ nszs l := by
  have e : ∀ l : List Nd, nszs (l.dropWhile whN) ≤ nszs l := by
    intro l
    induction l with
    | nil => exact Nat.le_refl _
    | cons n r ih =>
      rw [List.dropWhile_cons]
      split
      · rw [nszs]; omega
      · exact Nat.le_refl _
  have r : ∀ l : List Nd, nszs l.reverse = nszs l := by
    intro l
    induction l with
    | nil => rfl
    | cons n q ih => rw [List.reverse_cons, nszs_append, ih, nszs, nszs, nszs]; omega
  rw [trimF, trimB, r]
  exact Nat.le_trans (e _) (by rw [r]; exact e _)
def badN : ByteArray := ⟨#[110, 111, 110, 101, 32, 105, 110, 105, 116, 105, 97, 108, 32, 105, 110, 104, 101, 114, 105, 116, 32, 117, 110, 115, 101, 116, 32, 100, 101, 102, 97, 117, 108, 116]⟩
def nmF1 : List Nd → ByteArray × Bool
  | [n] => if n.tok.kind = 1 then (if amgF badN (lowS n.tok.text) then (⟨#[]⟩, false) else (canF n.tok.text, true)) else (⟨#[]⟩, false)
  | _ => (⟨#[]⟩, false)
def nmF (l : List Nd) : ByteArray × Bool := nmF1 (trimF l)
def nonS : ByteArray := ⟨#[110, 111, 110, 101]⟩
def styF (l : List Nd) : ByteArray × Bool := if aloF l = nonS then (nonS, true) else nmF l
def ltyF1 : List Nd → ByteArray × Bool
  | [n] => if n.tok.kind = 5 then (⟨#[34]⟩ ++ n.tok.text, true) else styF [n]
  | l => styF l
end Go.Proofs.YtiolnmfaeenlmaaGreatDoor

/- Rules, as data. -/
namespace Go.Proofs.YtiolnmfaeenlmaaGreatDoor
open Go Go.RowKit
set_option maxRecDepth 20000

structure Rl where
  at_ : ByteArray
  pre : List Nd
  blk : Bool
  decls : List Dc
def rlC (r : Rl) : List AV := [.val (.string r.at_), .sl 7 (r.pre.map nF), .val (.bool r.blk), .sl 3 (r.decls.map dcD)]
def rlA (r : Rl) : AV := .agg (rlC r)
def rlD (r : Rl) : D := .ag [.val (.string r.at_), .sl 7 (r.pre.map nF), .val (.bool r.blk), .sl 3 (r.decls.map dcD)]
theorem StepG.offu {P : Program} {ops : Array Oper} {o : Oper} {M : List AB} {F : Nat → AV} {j : Nat} {want : Bool} {g : Tmp} (hg : o.guard = some (j, want)) (hj : dstOf ops j = some g) (hF : F g = .val undef) : StepG P ops o M F M (.val undef) := by
  intro S B β a w hm hs K Q hK
  have h1 := hs g (guard_mem hg hj)
  rw [hF] at h1
  have hy := yielded_of (a := a) hj h1
  have hw : Region.wanted o (yielded ops a.tmps) = false := by simp [Region.wanted, hg, hy, boolOf, undef]
  rw [hw]
  exact hK undef β w (Ev.refl _ _ _) hm rfl
/-- An operation whose guard was not carried out. -/
theorem r_offu {P : Program} {ops : Array Oper} {N : Nat} {K : AS → Prop} {o : Oper} {r : List Oper} {fo fo' : Option (List Nat)} {M : List AB} {F : List (Nat × AV)} {dt : Tmp} {j : Nat} {want : Bool} {g : Tmp} (hg : o.guard = some (j, want)) (hj : dstOf ops j = some g) (hF : look F g = .val undef) (hdd : o.dst = some dt) (hd : dstB o.dst N = true)
    (hp : popF fo 0 = some fo') (k : RunX P ops N K r fo' (M) ((dt, (.val undef)) :: F)) : RunX P ops N K (o :: r) fo M F :=
  RunX.mk (fun _ k => Run.pure_ hd (fun _ => StepG.offu hg hj hF) (by rw [put_eq hdd]; exact k)) hp k
end Go.Proofs.YtiolnmfaeenlmaaGreatDoor

/- The reference's Sheet: rules; walked. -/
namespace Go.Proofs.YtiolnmfaeenlmaaGreatDoor
open Go Go.RowKit
set_option maxRecDepth 20000

def skB (n : Nd) : Bool := decide (n.tok.kind = 13) || decide (n.tok.kind = 14) || decide (n.tok.kind = 15) || decide (n.tok.kind = 17)
def goB (a : Bool) (n : Nd) : Bool := !blkB n && (!a || !semB n)
def atKB (n : Nd) : Bool := decide (n.tok.kind = 3)
def frI (l : List Nd) (i : Nat) : Nat := if atKB (ndAt l i) then i + 1 else i
def enI (l : List Nd) (i : Nat) : Nat := runE (goB (atKB (ndAt l i))) l (frI l i)
def blI (l : List Nd) (k : Nat) : Bool := decide (k < l.length) && blkB (ndAt l k)
def rlAt (l : List Nd) (i : Nat) : Rl := ⟨if atKB (ndAt l i) then lowS (ndAt l i).tok.text else ⟨#[]⟩, trimF ((l.take (enI l i)).drop (frI l i)), blI l (enI l i), if blI l (enI l i) then decA (ndAt l (enI l i)).kids 0 else []⟩
def emI (l : List Nd) (i : Nat) : List Rl := if atKB (ndAt l i) || blI l (enI l i) then [rlAt l i] else []
def shtR : Nat → List Nd → Nat → List Rl
  | 0, _, _ => []
  | f + 1, l, i =>
    if i < l.length then (if skB (ndAt l i) then shtR f l (i + 1) else emI l i ++ shtR f l (enI l i + 1)) else []
theorem frI_ge (l : List Nd) (i : Nat) : i ≤ frI l i := by unfold frI; split <;> omega
theorem enI_ge (l : List Nd) (i : Nat) : i ≤ enI l i := Nat.le_trans (frI_ge l i) (runE_ge _ _ _)
theorem shtR_fuel : ∀ (f f' : Nat) (l : List Nd) (i : Nat), l.length - i ≤ f → l.length - i ≤ f' → shtR f l i = shtR f' l i
  | 0, 0, _, _, _, _ => rfl
  | 0, f' + 1, l, i, h, _ => by rw [shtR, shtR, if_neg (by omega)]
  | f + 1, 0, l, i, _, h => by rw [shtR, shtR, if_neg (by omega)]
  | f + 1, f' + 1, l, i, h, h' => by
    have := enI_ge l i
    rw [shtR, shtR, shtR_fuel f f' l (i + 1) (by omega) (by omega), shtR_fuel f f' l (enI l i + 1) (by omega) (by omega)]
def shtA (l : List Nd) (i : Nat) : List Rl := shtR (l.length - i) l i
theorem shtA_end {l : List Nd} {i : Nat} (h : ¬ i < l.length) : shtA l i = [] := by rw [shtA, show l.length - i = 0 by omega, shtR]
theorem shtA_step {l : List Nd} {i : Nat} (h : i < l.length) : shtA l i = if skB (ndAt l i) then shtA l (i + 1) else emI l i ++ shtA l (enI l i + 1) := by
  obtain ⟨f, hf⟩ : ∃ f, l.length - i = f + 1 := ⟨l.length - i - 1, by omega⟩
  have := enI_ge l i
  rw [shtA, hf, shtR, if_pos h, shtR_fuel f (l.length - (i + 1)) l _ (by omega) (Nat.le_refl _), shtR_fuel f (l.length - (enI l i + 1)) l _ (by omega) (Nat.le_refl _)]
  rfl
structure ShS (l : List Nd) where
  i : Nat
  out : List Rl
  hol : out.length ≤ i
  hi : i ≤ l.length + 1
  eq : out ++ shtA l i = shtA l 0
set_option maxHeartbeats 8000000 in
theorem sheet_ok (b : List UInt8) (hb : b.length ≤ 65536) (ht : ∀ n ∈ nodesA (toksF (readL ⟨b.toArray⟩)) 0, n.tok.text.size ≤ 1099511627776) (hk : ∀ n ∈ nodesA (toksF (readL ⟨b.toArray⟩)) 0, ∀ m ∈ n.kids, m.tok.text.size ≤ 1099511627776) (hr : (shtA (nodesA (toksF (readL ⟨b.toArray⟩)) 0) 0).length ≤ 500) : PCalls Tryz.prog 13 [.sl 1 (b.map bD)] (.tup [.sl 4 ((shtA (nodesA (toksF (readL ⟨b.toArray⟩)) 0) 0).map rlD), .val (.int .i64 0)]) := by
  refine p_start Tryz.func13 Tryz.ntmps13 rfl rfl rfl fun S w => ?_
  have hbm : (b.map bD).length = b.length := List.length_map _
  have hbig : ¬ (65536 : Int) < b.length := by omega
  repeat (first | refine awp_seq ?_ | refine thenA_normal ?_ | refine a_region ?_ | refine r_done ?_ | (refine r_id ?_; first | refine r_len tab_ok rfl rfl rfl rfl rfl rfl rfl ?_ | refine r_ev tab_ok rfl rfl rfl rfl byE rfl ?_))
  refine awp_cond_p rfl (fun h => absurd h hbig) (fun _ => ?_)
  repeat (first | refine awp_seq ?_ | refine a_region ?_ | refine awp_skip ?_ | (refine r_id ?_; first | refine r_ev tab_ok rfl rfl rfl rfl byE rfl ?_))
  refine r_call (refRead b (by omega)) call33 rfl rfl ⟨Sub.refl _, trivial⟩ rfl rfl rfl rfl ?_
  have hl1 := readL_len ⟨b.toArray⟩
  have hbs : (⟨b.toArray⟩ : ByteArray).size = b.length := List.size_toArray
  refine r_call (tokens_ok (readL ⟨b.toArray⟩) (by omega)) call32 rfl rfl ⟨Sub.refl _, trivial⟩ rfl rfl rfl rfl ?_
  have hl2 : (toksF (readL ⟨b.toArray⟩)).length ≤ 65536 := by
    obtain ⟨r, j, h1, h2, h3, h4, h5⟩ := goAt_end (tStep_goes (readL ⟨b.toArray⟩)) (readL ⟨b.toArray⟩).length 0 (Nat.zero_le _) (by omega)
    rw [toksF]
    omega
  refine r_call (nodes_ok (toksF (readL ⟨b.toArray⟩)) (by omega)) call31 rfl rfl ⟨Sub.refl _, trivial⟩ rfl rfl rfl rfl ?_
  have hl3 := nodesA_sz (toksF (readL ⟨b.toArray⟩))
  generalize nodesA (toksF (readL ⟨b.toArray⟩)) 0 = l at ht hk hr hl3 ⊢
  have hll := nszs_len l
  have hlm : (l.map nF).length = l.length := List.length_map _
  repeat (first | refine awp_seq ?_ | refine thenA_normal ?_ | refine awp_block ?_ | refine a_region ?_ | refine r_done ?_ | (refine r_id ?_; first | refine r_ev tab_ok rfl rfl rfl rfl byE rfl ?_))
  refine a_loop (σ := ShS l) (fun x => [.row 0 45 4 (x.out.map rlD)]) (fun x => [(4, .sl 7 (l.map nF)), (5, .row 0 0), (6, .val (.int .i64 x.i))]) (fun x => l.length + 1 - x.i) ⟨0, [], Nat.zero_le _, Nat.zero_le _, rfl⟩ (fits_conv byV byV) ?_
  rintro ⟨i, out, hol, hi, heq⟩
  dsimp only
  have hom : (out.map rlD).length = out.length := List.length_map _
  repeat (first | refine awp_seq ?_ | refine thenA_normal ?_ | refine a_region ?_ | refine r_done ?_ | (refine r_id ?_; first | refine r_len tab_ok rfl rfl rfl rfl rfl rfl rfl ?_ | refine r_ev tab_ok rfl rfl rfl rfl byE rfl ?_))
  refine awp_cond_p rfl (fun hlt => ?_) (fun hge => ?_)
  rotate_left
  · rw [shtA_end (by omega), List.append_nil] at heq
    rw [heq] at hom ⊢
    repeat (first | refine awp_seq ?_ | refine thenA_normal ?_ | refine a_region ?_ | refine awp_exit ?_ | refine r_done ?_ | (refine r_id ?_; first | refine r_ev tab_ok rfl rfl rfl rfl byE rfl ?_ | refine r_ld tab_ok rfl rfl rfl rfl rfl ?_))
    refine awp_cond_p rfl (fun h => absurd h (by omega)) (fun _ => ?_)
    repeat (first | refine awp_seq ?_ | refine thenA_normal ?_ | refine a_region ?_ | refine awp_skip ?_ | refine r_done ?_ | (refine r_id ?_; first | refine r_ev tab_ok rfl rfl rfl rfl byE rfl ?_))
    refine awp_fits (s' := ⟨[.gone], [(2, .sl 4 ((shtA l 0).map rlD)), (3, .val (.int .i64 0))]⟩) (fits_conv byV ⟨c_thaw rfl rfl rfl, c_sub rfl (Sub.refl _) rfl, trivial⟩) ?_
    repeat (first | refine awp_ret ?_ | refine ret2 byO rfl rfl rfl rfl ?_ ?_)
    all_goals exact Sub.refl _
  have hi' : i < l.length := by omega
  have hgi := ndAt_get hi'
  rw [shtA_step hi'] at heq
  obtain ⟨n, hn⟩ : ∃ n, ndAt l i = n := ⟨_, rfl⟩
  have hnt := ht n (by rw [← hn, ← hgi]; exact List.getElem_mem hi')
  simp only [hn] at heq hgi
  repeat (first | refine awp_seq ?_ | refine thenA_normal ?_ | refine awp_block ?_ | refine a_region ?_ | refine awp_skip ?_ | refine r_done ?_ | (refine r_id ?_; first | refine r_ev tab_ok rfl rfl rfl rfl byE rfl ?_ | refine r_ld tab_ok rfl rfl rfl rfl rfl ?_ | refine r_idx tab_ok rfl rfl rfl rfl rfl rfl rfl (by first | exact ⟨by omega, by omega⟩ | (simp; omega)) rfl rfl ?_ | refine r_wr tab_ok rfl rfl rfl rfl rfl ?_ | refine r_st tab_ok rfl rfl rfl rfl ?_ | refine r_ev_cnd tab_ok rfl rfl rfl rfl rfl rfl byC (by first | exact fun _ => trivial | (intro h; simp at h; first | exact ⟨by omega, by omega⟩ | omega)) rfl ?_ | refine r_ld_cnd tab_ok rfl rfl rfl rfl rfl rfl byC rfl ?_ | refine r_or rfl rfl rfl rfl rfl rfl rfl rfl ?_))
  simp only [Int.toNat_natCast, hgi]
  refine awp_cond rfl (fun hc => ?_) (fun hc => ?_)
  · rw [if_pos (show skB n = true from hc)] at heq
    repeat (first | refine awp_seq ?_ | refine thenA_normal ?_ | refine a_region ?_ | refine awp_exit ?_ | refine thenA_exit ?_ | refine blockA_hit rfl ?_ | refine r_done ?_ | (refine r_id ?_; first | refine r_ev tab_ok rfl rfl rfl rfl byE rfl ?_))
    exact ⟨⟨i + 1, out, by omega, by omega, heq⟩, by dsimp only; omega, fits_drop 1 rfl rfl byK⟩
  rw [if_neg (by rw [show skB n = false from hc]; exact Bool.false_ne_true)] at heq
  cases ha : atKB n with
  | true =>
    have hfr : frI l i = i + 1 := by rw [frI, hn, ha]; rfl
    obtain ⟨kE, hkE⟩ : ∃ kE, kE = runE (goB true) l (i + 1) := ⟨_, rfl⟩
    have hen : enI l i = kE := by rw [enI, hfr, hn, ha, hkE]
    have hfl : i + 1 ≤ l.length := by omega
    have hkge : i + 1 ≤ kE := by rw [hkE]; exact runE_ge _ _ _
    have hkle : kE ≤ l.length := by rw [hkE]; exact runE_le hfl
    rw [hen] at heq
    have hat3 : n.tok.kind = 3 := by simpa [atKB] using ha
    repeat (first | refine awp_seq ?_ | refine thenA_normal ?_ | refine a_region ?_ | refine awp_skip ?_ | refine r_done ?_ | (refine r_id ?_; first | refine r_ev tab_ok rfl rfl rfl rfl byE rfl ?_ | refine r_ld tab_ok rfl rfl rfl rfl rfl ?_ | refine r_wr tab_ok rfl rfl rfl rfl rfl ?_))
    refine awp_cond_p rfl (fun _ => ?_) (fun h => absurd hat3 h)
    repeat (first | refine awp_seq ?_ | refine a_region ?_ | (refine r_id ?_; first | refine r_ev tab_ok rfl rfl rfl rfl byE rfl ?_ | refine r_ld tab_ok rfl rfl rfl rfl rfl ?_))
    refine r_call (refLower n.tok.text (by omega)) call34 rfl rfl ⟨Sub.refl _, trivial⟩ rfl rfl rfl rfl ?_
    repeat (first | refine awp_seq ?_ | refine thenA_normal ?_ | refine awp_block ?_ | refine a_region ?_ | refine r_done ?_ | (refine r_id ?_; first | refine r_ev tab_ok rfl rfl rfl rfl byE rfl ?_ | refine r_st tab_ok rfl rfl rfl rfl ?_))
    refine a_loop (σ := {k : Nat // i + 1 ≤ k ∧ k ≤ kE}) (fun _ => [.row 0 45 4 (out.map rlD), .box 47 [.val (.int .i64 n.tok.kind), .val (.string n.tok.text), .val (.int .i64 n.tok.int), .val (.bool n.tok.whole), .val (.bool n.tok.sign), .val (.bool n.tok.id)], .box 45 [.val (.string (lowS n.tok.text)), .val (.slice none 0 0), .val (.bool false), .val (.slice none 0 0)]]) (fun x => [(4, .sl 7 (l.map nF)), (5, .row 0 0), (8, .val (.bool true)), (9, .ptr 2 0), (10, .val (.int .i64 (x.1 : Nat))), (11, .val (.int .i64 (i + 1 : Nat)))]) (fun x => l.length - x.1) ⟨i + 1, Nat.le_refl _, hkge⟩ (fits_conv byV ⟨c_sub rfl (Sub.refl _) rfl, c_row rfl rfl rfl, c_sub rfl (Sub.of_eq (congrArg (fun b => AV.val (.bool b)) (decide_eq_true hat3))) rfl, c_ptr rfl rfl rfl rfl, c_sub rfl (Sub.refl _) rfl, c_sub rfl (Sub.refl _) rfl, trivial⟩) ?_
    rintro ⟨k, hik, hk0⟩
    dsimp only
    have hk1 : k ≤ runE (goB true) l (i + 1) := by rw [← hkE]; exact hk0
    rcases Nat.lt_or_ge k l.length with hkl | hkl
    · have hgk := ndAt_get hkl
      have hmore := runE_more (p := goB true) hik hk1 hkl
      have hstop := fun h => runE_stop (p := goB true) hik hk1 (fun _ => h)
      rw [← hkE] at hmore hstop
      obtain ⟨m, hm⟩ : ∃ m, ndAt l k = m := ⟨_, rfl⟩
      have hmt := hk m (by rw [← hm, ← hgk]; exact List.getElem_mem hkl)
      simp only [hm] at hgk hmore hstop
      repeat (first | refine awp_seq ?_ | refine a_region ?_ | (refine r_id ?_; first | refine r_len tab_ok rfl rfl rfl rfl rfl rfl rfl ?_ | refine r_ev tab_ok rfl rfl rfl rfl byE rfl ?_ | refine r_ev_cnd tab_ok rfl rfl rfl rfl rfl rfl byC (by first | exact fun _ => trivial | (intro h; simp at h; first | exact ⟨by omega, by omega⟩ | omega)) rfl ?_ | refine r_idx_cnd tab_ok rfl rfl rfl rfl rfl rfl rfl byC rfl rfl (by exact ⟨by omega, by omega⟩) rfl rfl ?_))
      simp only [Int.toNat_natCast, hgk]
      try simp only [Int.toNat_natCast, hgk]
      refine r_call_cnd (fun _ => rblock_ok m) call35 rfl rfl rfl rfl byC ⟨Sub.refl _, trivial⟩ rfl rfl rfl rfl ?_
      repeat (first | refine thenA_normal ?_ | refine r_done ?_ | (refine r_id ?_; first | refine r_ev tab_ok rfl rfl rfl rfl byE rfl ?_ | refine r_ev_cnd tab_ok rfl rfl rfl rfl rfl rfl byC (by first | exact fun _ => trivial | (intro h; simp at h; first | exact ⟨by omega, by omega⟩ | omega)) rfl ?_ | refine r_idx_cnd tab_ok rfl rfl rfl rfl rfl rfl rfl byC rfl rfl (by exact ⟨by omega, by omega⟩) rfl rfl ?_ | refine r_or_cnd rfl rfl rfl rfl rfl rfl rfl rfl rfl rfl ?_ | refine r_and rfl rfl rfl rfl rfl rfl rfl rfl ?_))
      try simp only [Int.toNat_natCast, hgk]
      have hd : decide ((k : Int) < l.length) = true := decide_eq_true (by omega)
      refine awp_cond rfl (fun hc => ?_) (fun hc => ?_)
      · rw [hd, Bool.true_and] at hc
        have hlt2 := hmore hc
        repeat (first | refine thenA_normal ?_ | refine awp_block ?_ | refine a_region ?_ | refine blockA_normal ?_ | refine awp_skip ?_ | refine r_done ?_ | (refine r_id ?_; first | refine r_ev tab_ok rfl rfl rfl rfl byE rfl ?_))
        exact ⟨⟨k + 1, by omega, hlt2⟩, by dsimp only; omega, fits_of rfl byK⟩
      · rw [hd, Bool.true_and] at hc
        have he := hstop hc
        clear hmore hstop hc
        subst he
        repeat (first | refine awp_seq ?_ | refine a_region ?_ | refine awp_exit ?_ | (refine r_id ?_; first | refine r_ev tab_ok rfl rfl rfl rfl byE rfl ?_))
        refine r_cut tab_ok rfl rfl rfl rfl rfl rfl rfl rfl (by show (0 : Int) ≤ (((i + 1) : Nat) : Int) ∧ (((i + 1) : Nat) : Int) ≤ ((k : Nat) : Int) ∧ ((k : Nat) : Int) ≤ (l.length : Int); omega) rfl ?_
        refine r_call (show PCalls Tryz.prog 36 [.sl 7 (((l.take ((k : Nat) : Int).toNat).drop ((((i + 1) : Nat) : Int)).toNat).map nF)] (.sl 7 ((trimF ((l.take k).drop (i + 1))).map nF)) by
            simp only [Int.toNat_natCast]
            exact rtrim_ok ((l.take k).drop (i + 1)) (by simp only [List.length_drop, List.length_take]; omega)) call36 rfl rfl ⟨Sub.refl _, trivial⟩ rfl rfl rfl rfl ?_
        repeat (first | refine awp_seq ?_ | refine a_region ?_ | refine r_done ?_ | (refine r_id ?_; first | refine r_len tab_ok rfl rfl rfl rfl rfl rfl rfl ?_ | refine r_ev tab_ok rfl rfl rfl rfl byE rfl ?_ | refine r_st tab_ok rfl rfl rfl rfl ?_ | refine r_ev_cnd tab_ok rfl rfl rfl rfl rfl rfl byC (by first | exact fun _ => trivial | (intro h; simp at h; first | exact ⟨by omega, by omega⟩ | omega)) rfl ?_ | refine r_idx_cnd tab_ok rfl rfl rfl rfl rfl rfl rfl byC rfl rfl (by exact ⟨by omega, by omega⟩) rfl rfl ?_))
        simp only [Int.toNat_natCast, hgk]
        try simp only [Int.toNat_natCast, hgk]
        refine r_call_cnd (fun _ => rblock_ok m) call35 rfl rfl rfl rfl byC ⟨Sub.refl _, trivial⟩ rfl rfl rfl rfl ?_
        rw [hd]
        cases hb : blkB m with
        | true =>
          have hkl2 := nszs_at hkl
          rw [hgk] at hkl2
          have hkl3 := nszs_len m.kids
          repeat (first | refine awp_seq ?_ | refine thenA_normal ?_ | refine a_region ?_ | refine r_done ?_ | (refine r_id ?_; first | refine r_ev tab_ok rfl rfl rfl rfl byE rfl ?_ | refine r_idx tab_ok rfl rfl rfl rfl rfl rfl rfl (by first | exact ⟨by omega, by omega⟩ | (simp; omega)) rfl rfl ?_ | refine r_st tab_ok rfl rfl rfl rfl ?_ | refine r_and rfl rfl rfl rfl rfl rfl rfl rfl ?_) | refine awp_cond_t rfl ?_)
          try simp only [Int.toNat_natCast, hgk]
          refine r_call (show PCalls Tryz.prog 20 [.sl 7 (m.kids.map nD)] (.sl 3 ((decA m.kids 0).map dcD)) by rw [nD_fun]; exact rdecls_ok m.kids (by omega) hmt) call20 rfl rfl ⟨Sub.refl _, trivial⟩ rfl rfl rfl rfl ?_
          have hbl : blI l k = true := by rw [blI, hm, hb, decide_eq_true hkl]; rfl
          have hrl : rlAt l i = ⟨(lowS n.tok.text), trimF ((l.take k).drop (i + 1)), true, decA m.kids 0⟩ := by rw [rlAt, hen, hfr, hn, ha, hbl, hm]; rfl
          have hem : emI l i = [rlAt l i] := by rw [emI, hn, ha, hen, hbl]; rfl
          rw [hem, hrl] at heq
          repeat (first | refine awp_seq ?_ | refine thenA_normal ?_ | refine a_region ?_ | refine blockA_normal ?_ | refine r_done ?_ | (refine r_id ?_; first | refine r_ev tab_ok rfl rfl rfl rfl byE rfl ?_ | refine r_ld tab_ok rfl rfl rfl rfl rfl ?_ | refine r_st tab_ok rfl rfl rfl rfl ?_ | refine r_ev_cnd tab_ok rfl rfl rfl rfl rfl rfl byC (by first | exact fun _ => trivial | (intro h; simp at h; first | exact ⟨by omega, by omega⟩ | omega)) rfl ?_ | refine r_ld_cnd tab_ok rfl rfl rfl rfl rfl rfl byC rfl ?_ | refine r_or rfl rfl rfl rfl rfl rfl rfl rfl ?_ | refine r_built tab_ok rfl rfl rfl rfl rfl rfl rfl rfl rfl ?_ | refine r_append tab_ok rfl rfl rfl rfl rfl rfl rfl rfl rfl (by first | omega | (simp; omega)) rfl ?_) | refine awp_cond_t rfl ?_)
          refine ⟨⟨k + 1, out ++ [⟨(lowS n.tok.text), trimF ((l.take k).drop (i + 1)), true, decA m.kids 0⟩], by simp; omega, by omega, by rw [List.append_assoc]; exact heq⟩, by dsimp only; omega, ?_⟩
          dsimp only
          rw [show (out ++ [(⟨(lowS n.tok.text), trimF ((l.take k).drop (i + 1)), true, decA m.kids 0⟩ : Rl)]).map rlD = out.map rlD ++ [rlD ⟨(lowS n.tok.text), trimF ((l.take k).drop (i + 1)), true, decA m.kids 0⟩] from List.map_append]
          exact fits_trans (s' := ⟨[.row 0 45 4 (out.map rlD ++ [rlD ⟨(lowS n.tok.text), trimF ((l.take k).drop (i + 1)), true, decA m.kids 0⟩]), .gone, .gone], [(4, .sl 7 (l.map nF)), (5, .row 0 0), (6, .val (.int .i64 (k + 1 : Nat)))]⟩) (fits_conv byV ⟨c_sub rfl (Sub.refl _) rfl, c_row rfl rfl rfl, c_sub rfl (Sub.refl _) rfl, trivial⟩) (fits_drop 1 rfl rfl byK)
        | false =>
          have hbl : blI l k = false := by rw [blI, hm, hb, decide_eq_true hkl]; rfl
          have hrl : rlAt l i = ⟨(lowS n.tok.text), trimF ((l.take k).drop (i + 1)), false, []⟩ := by rw [rlAt, hen, hfr, hn, ha, hbl]; rfl
          have hem : emI l i = [rlAt l i] := by rw [emI, hn, ha, hen, hbl]; rfl
          rw [hem, hrl] at heq
          repeat (first | refine awp_seq ?_ | refine thenA_normal ?_ | refine awp_skip ?_ | refine r_done ?_ | (refine r_id ?_; first | refine r_and rfl rfl rfl rfl rfl rfl rfl rfl ?_) | refine awp_cond_f rfl ?_)
          refine awp_fits (s' := ⟨[.row 0 45 4 (out.map rlD), .box 47 [.val (.int .i64 n.tok.kind), .val (.string n.tok.text), .val (.int .i64 n.tok.int), .val (.bool n.tok.whole), .val (.bool n.tok.sign), .val (.bool n.tok.id)], .box 45 [.val (.string (lowS n.tok.text)), .sl 7 ((trimF ((l.take k).drop (i + 1))).map nF), .val (.bool false), .sl 3 []]], [(4, .sl 7 (l.map nF)), (5, .row 0 0), (8, .val (.bool true)), (9, .ptr 2 0), (10, .val (.int .i64 (k : Nat)))]⟩) (fits_conv byV ⟨c_sub rfl (Sub.refl _) rfl, c_row rfl rfl rfl, c_sub rfl (Sub.refl _) rfl, c_ptr rfl rfl rfl rfl, c_sub rfl (Sub.refl _) rfl, trivial⟩) ?_
          repeat (first | refine thenA_normal ?_ | refine a_region ?_ | refine blockA_normal ?_ | refine r_done ?_ | (refine r_id ?_; first | refine r_ev tab_ok rfl rfl rfl rfl byE rfl ?_ | refine r_ld tab_ok rfl rfl rfl rfl rfl ?_ | refine r_ev_cnd tab_ok rfl rfl rfl rfl rfl rfl byC (by first | exact fun _ => trivial | (intro h; simp at h; first | exact ⟨by omega, by omega⟩ | omega)) rfl ?_ | refine r_ld_cnd tab_ok rfl rfl rfl rfl rfl rfl byC rfl ?_ | refine r_or rfl rfl rfl rfl rfl rfl rfl rfl ?_ | refine r_built tab_ok rfl rfl rfl rfl rfl rfl rfl rfl rfl ?_ | refine r_append tab_ok rfl rfl rfl rfl rfl rfl rfl rfl rfl (by first | omega | (simp; omega)) rfl ?_) | refine awp_cond_t rfl ?_)
          refine ⟨⟨k + 1, out ++ [⟨(lowS n.tok.text), trimF ((l.take k).drop (i + 1)), false, []⟩], by simp; omega, by omega, by rw [List.append_assoc]; exact heq⟩, by dsimp only; omega, ?_⟩
          dsimp only
          rw [show (out ++ [(⟨(lowS n.tok.text), trimF ((l.take k).drop (i + 1)), false, []⟩ : Rl)]).map rlD = out.map rlD ++ [rlD ⟨(lowS n.tok.text), trimF ((l.take k).drop (i + 1)), false, []⟩] from List.map_append]
          exact fits_trans (s' := ⟨[.row 0 45 4 (out.map rlD ++ [rlD ⟨(lowS n.tok.text), trimF ((l.take k).drop (i + 1)), false, []⟩]), .gone, .gone], [(4, .sl 7 (l.map nF)), (5, .row 0 0), (6, .val (.int .i64 (k + 1 : Nat)))]⟩) (fits_conv byV ⟨c_sub rfl (Sub.refl _) rfl, c_row rfl rfl rfl, c_sub rfl (Sub.refl _) rfl, trivial⟩) (fits_drop 1 rfl rfl byK)
    · have he : k = kE := by omega
      subst he
      repeat (first | refine awp_seq ?_ | refine a_region ?_ | (refine r_id ?_; first | refine r_len tab_ok rfl rfl rfl rfl rfl rfl rfl ?_ | refine r_ev tab_ok rfl rfl rfl rfl byE rfl ?_ | refine r_off rfl rfl rfl rfl rfl rfl ?_) | refine r_pick_f rfl rfl (congrArg (fun b => AV.val (.bool b)) (decide_eq_false (by omega))) rfl rfl rfl rfl ?_ | refine r_off rfl rfl (congrArg (fun b => AV.val (.bool b)) (decide_eq_false (by omega))) rfl rfl rfl ?_)
      repeat refine r_offu rfl rfl rfl rfl rfl rfl ?_
      repeat (first | refine awp_seq ?_ | refine thenA_normal ?_ | refine a_region ?_ | refine awp_exit ?_ | refine r_done ?_ | (refine r_id ?_; first | refine r_ev tab_ok rfl rfl rfl rfl byE rfl ?_ | refine r_pick_f rfl rfl rfl rfl rfl rfl rfl ?_ | refine r_off rfl rfl rfl rfl rfl rfl ?_) | refine awp_cond_f rfl ?_)
      refine r_cut tab_ok rfl rfl rfl rfl rfl rfl rfl rfl (by show (0 : Int) ≤ (((i + 1) : Nat) : Int) ∧ (((i + 1) : Nat) : Int) ≤ ((k : Nat) : Int) ∧ ((k : Nat) : Int) ≤ (l.length : Int); omega) rfl ?_
      refine r_call (show PCalls Tryz.prog 36 [.sl 7 (((l.take ((k : Nat) : Int).toNat).drop ((((i + 1) : Nat) : Int)).toNat).map nF)] (.sl 7 ((trimF ((l.take k).drop (i + 1))).map nF)) by
          simp only [Int.toNat_natCast]
          exact rtrim_ok ((l.take k).drop (i + 1)) (by simp only [List.length_drop, List.length_take]; omega)) call36 rfl rfl ⟨Sub.refl _, trivial⟩ rfl rfl rfl rfl ?_
      repeat (first | refine awp_seq ?_ | refine r_done ?_ | (refine r_id ?_; first | refine r_ev tab_ok rfl rfl rfl rfl byE rfl ?_ | refine r_st tab_ok rfl rfl rfl rfl ?_))
      refine a_region ?_
      repeat (first | refine awp_seq ?_ | refine thenA_normal ?_ | refine awp_skip ?_ | refine r_done ?_ | (refine r_id ?_; first | refine r_len tab_ok rfl rfl rfl rfl rfl rfl rfl ?_ | refine r_ev tab_ok rfl rfl rfl rfl byE rfl ?_) | refine awp_cond_f rfl ?_ | refine r_pick_f rfl rfl (congrArg (fun b => AV.val (.bool b)) (decide_eq_false (by omega))) rfl rfl rfl rfl ?_ | refine r_off rfl rfl (congrArg (fun b => AV.val (.bool b)) (decide_eq_false (by omega))) rfl rfl rfl ?_)
      have hbl : blI l k = false := by rw [blI, decide_eq_false (by omega)]; rfl
      have hrl : rlAt l i = ⟨(lowS n.tok.text), trimF ((l.take k).drop (i + 1)), false, []⟩ := by rw [rlAt, hen, hfr, hn, ha, hbl]; rfl
      have hem : emI l i = [rlAt l i] := by rw [emI, hn, ha, hen, hbl]; rfl
      rw [hem, hrl] at heq
      refine awp_fits (s' := ⟨[.row 0 45 4 (out.map rlD), .box 47 [.val (.int .i64 n.tok.kind), .val (.string n.tok.text), .val (.int .i64 n.tok.int), .val (.bool n.tok.whole), .val (.bool n.tok.sign), .val (.bool n.tok.id)], .box 45 [.val (.string (lowS n.tok.text)), .sl 7 ((trimF ((l.take k).drop (i + 1))).map nF), .val (.bool false), .sl 3 []]], [(4, .sl 7 (l.map nF)), (5, .row 0 0), (8, .val (.bool true)), (9, .ptr 2 0), (10, .val (.int .i64 (k : Nat)))]⟩) (fits_conv byV ⟨c_sub rfl (Sub.refl _) rfl, c_row rfl rfl rfl, c_sub rfl (Sub.refl _) rfl, c_ptr rfl rfl rfl rfl, c_sub rfl (Sub.refl _) rfl, trivial⟩) ?_
      repeat (first | refine thenA_normal ?_ | refine a_region ?_ | refine blockA_normal ?_ | refine r_done ?_ | (refine r_id ?_; first | refine r_ev tab_ok rfl rfl rfl rfl byE rfl ?_ | refine r_ld tab_ok rfl rfl rfl rfl rfl ?_ | refine r_ev_cnd tab_ok rfl rfl rfl rfl rfl rfl byC (by first | exact fun _ => trivial | (intro h; simp at h; first | exact ⟨by omega, by omega⟩ | omega)) rfl ?_ | refine r_ld_cnd tab_ok rfl rfl rfl rfl rfl rfl byC rfl ?_ | refine r_or rfl rfl rfl rfl rfl rfl rfl rfl ?_ | refine r_built tab_ok rfl rfl rfl rfl rfl rfl rfl rfl rfl ?_ | refine r_append tab_ok rfl rfl rfl rfl rfl rfl rfl rfl rfl (by first | omega | (simp; omega)) rfl ?_) | refine awp_cond_t rfl ?_)
      refine ⟨⟨k + 1, out ++ [⟨(lowS n.tok.text), trimF ((l.take k).drop (i + 1)), false, []⟩], by simp; omega, by omega, by rw [List.append_assoc]; exact heq⟩, by dsimp only; omega, ?_⟩
      dsimp only
      rw [show (out ++ [(⟨(lowS n.tok.text), trimF ((l.take k).drop (i + 1)), false, []⟩ : Rl)]).map rlD = out.map rlD ++ [rlD ⟨(lowS n.tok.text), trimF ((l.take k).drop (i + 1)), false, []⟩] from List.map_append]
      exact fits_trans (s' := ⟨[.row 0 45 4 (out.map rlD ++ [rlD ⟨(lowS n.tok.text), trimF ((l.take k).drop (i + 1)), false, []⟩]), .gone, .gone], [(4, .sl 7 (l.map nF)), (5, .row 0 0), (6, .val (.int .i64 (k + 1 : Nat)))]⟩) (fits_conv byV ⟨c_sub rfl (Sub.refl _) rfl, c_row rfl rfl rfl, c_sub rfl (Sub.refl _) rfl, trivial⟩) (fits_drop 1 rfl rfl byK)
  | false =>
    have hfr : frI l i = i := by rw [frI, hn, ha]; rfl
    obtain ⟨kE, hkE⟩ : ∃ kE, kE = runE (goB false) l (i) := ⟨_, rfl⟩
    have hen : enI l i = kE := by rw [enI, hfr, hn, ha, hkE]
    have hfl : i ≤ l.length := by omega
    have hkge : i ≤ kE := by rw [hkE]; exact runE_ge _ _ _
    have hkle : kE ≤ l.length := by rw [hkE]; exact runE_le hfl
    rw [hen] at heq
    have hat3 : ¬ n.tok.kind = 3 := by simpa [atKB] using ha
    repeat (first | refine awp_seq ?_ | refine thenA_normal ?_ | refine a_region ?_ | refine awp_skip ?_ | refine r_done ?_ | (refine r_id ?_; first | refine r_ev tab_ok rfl rfl rfl rfl byE rfl ?_ | refine r_ld tab_ok rfl rfl rfl rfl rfl ?_ | refine r_wr tab_ok rfl rfl rfl rfl rfl ?_))
    refine awp_cond_p rfl (fun h => absurd h hat3) (fun _ => ?_)
    repeat (first | refine awp_seq ?_ | refine awp_block ?_ | refine a_region ?_ | refine awp_skip ?_ | refine r_done ?_ | (refine r_id ?_; first | refine r_ev tab_ok rfl rfl rfl rfl byE rfl ?_))
    refine a_loop (σ := {k : Nat // i ≤ k ∧ k ≤ kE}) (fun _ => [.row 0 45 4 (out.map rlD), .box 47 [.val (.int .i64 n.tok.kind), .val (.string n.tok.text), .val (.int .i64 n.tok.int), .val (.bool n.tok.whole), .val (.bool n.tok.sign), .val (.bool n.tok.id)], .box 45 [.val (.string ⟨#[]⟩), .val (.slice none 0 0), .val (.bool false), .val (.slice none 0 0)]]) (fun x => [(4, .sl 7 (l.map nF)), (5, .row 0 0), (8, .val (.bool false)), (9, .ptr 2 0), (10, .val (.int .i64 (x.1 : Nat))), (11, .val (.int .i64 (i : Nat)))]) (fun x => l.length - x.1) ⟨i, Nat.le_refl _, hkge⟩ (fits_conv byV ⟨c_sub rfl (Sub.refl _) rfl, c_row rfl rfl rfl, c_sub rfl (Sub.of_eq (congrArg (fun b => AV.val (.bool b)) (decide_eq_false hat3))) rfl, c_ptr rfl rfl rfl rfl, c_sub rfl (Sub.refl _) rfl, c_sub rfl (Sub.refl _) rfl, trivial⟩) ?_
    rintro ⟨k, hik, hk0⟩
    dsimp only
    have hk1 : k ≤ runE (goB false) l (i) := by rw [← hkE]; exact hk0
    rcases Nat.lt_or_ge k l.length with hkl | hkl
    · have hgk := ndAt_get hkl
      have hmore := runE_more (p := goB false) hik hk1 hkl
      have hstop := fun h => runE_stop (p := goB false) hik hk1 (fun _ => h)
      rw [← hkE] at hmore hstop
      obtain ⟨m, hm⟩ : ∃ m, ndAt l k = m := ⟨_, rfl⟩
      have hmt := hk m (by rw [← hm, ← hgk]; exact List.getElem_mem hkl)
      simp only [hm] at hgk hmore hstop
      repeat (first | refine awp_seq ?_ | refine a_region ?_ | (refine r_id ?_; first | refine r_len tab_ok rfl rfl rfl rfl rfl rfl rfl ?_ | refine r_ev tab_ok rfl rfl rfl rfl byE rfl ?_ | refine r_ev_cnd tab_ok rfl rfl rfl rfl rfl rfl byC (by first | exact fun _ => trivial | (intro h; simp at h; first | exact ⟨by omega, by omega⟩ | omega)) rfl ?_ | refine r_idx_cnd tab_ok rfl rfl rfl rfl rfl rfl rfl byC rfl rfl (by exact ⟨by omega, by omega⟩) rfl rfl ?_))
      simp only [Int.toNat_natCast, hgk]
      try simp only [Int.toNat_natCast, hgk]
      refine r_call_cnd (fun _ => rblock_ok m) call35 rfl rfl rfl rfl byC ⟨Sub.refl _, trivial⟩ rfl rfl rfl rfl ?_
      repeat (first | refine thenA_normal ?_ | refine r_done ?_ | (refine r_id ?_; first | refine r_ev tab_ok rfl rfl rfl rfl byE rfl ?_ | refine r_ev_cnd tab_ok rfl rfl rfl rfl rfl rfl byC (by first | exact fun _ => trivial | (intro h; simp at h; first | exact ⟨by omega, by omega⟩ | omega)) rfl ?_ | refine r_idx_cnd tab_ok rfl rfl rfl rfl rfl rfl rfl byC rfl rfl (by exact ⟨by omega, by omega⟩) rfl rfl ?_ | refine r_or_cnd rfl rfl rfl rfl rfl rfl rfl rfl rfl rfl ?_ | refine r_and rfl rfl rfl rfl rfl rfl rfl rfl ?_))
      try simp only [Int.toNat_natCast, hgk]
      have hd : decide ((k : Int) < l.length) = true := decide_eq_true (by omega)
      refine awp_cond rfl (fun hc => ?_) (fun hc => ?_)
      · rw [hd, Bool.true_and] at hc
        have hlt2 := hmore hc
        repeat (first | refine thenA_normal ?_ | refine awp_block ?_ | refine a_region ?_ | refine blockA_normal ?_ | refine awp_skip ?_ | refine r_done ?_ | (refine r_id ?_; first | refine r_ev tab_ok rfl rfl rfl rfl byE rfl ?_))
        exact ⟨⟨k + 1, by omega, hlt2⟩, by dsimp only; omega, fits_of rfl byK⟩
      · rw [hd, Bool.true_and] at hc
        have he := hstop hc
        clear hmore hstop hc
        subst he
        repeat (first | refine awp_seq ?_ | refine a_region ?_ | refine awp_exit ?_ | (refine r_id ?_; first | refine r_ev tab_ok rfl rfl rfl rfl byE rfl ?_))
        refine r_cut tab_ok rfl rfl rfl rfl rfl rfl rfl rfl (by show (0 : Int) ≤ ((i : Nat) : Int) ∧ ((i : Nat) : Int) ≤ ((k : Nat) : Int) ∧ ((k : Nat) : Int) ≤ (l.length : Int); omega) rfl ?_
        refine r_call (show PCalls Tryz.prog 36 [.sl 7 (((l.take ((k : Nat) : Int).toNat).drop (((i : Nat) : Int)).toNat).map nF)] (.sl 7 ((trimF ((l.take k).drop i)).map nF)) by
            simp only [Int.toNat_natCast]
            exact rtrim_ok ((l.take k).drop i) (by simp only [List.length_drop, List.length_take]; omega)) call36 rfl rfl ⟨Sub.refl _, trivial⟩ rfl rfl rfl rfl ?_
        repeat (first | refine awp_seq ?_ | refine a_region ?_ | refine r_done ?_ | (refine r_id ?_; first | refine r_len tab_ok rfl rfl rfl rfl rfl rfl rfl ?_ | refine r_ev tab_ok rfl rfl rfl rfl byE rfl ?_ | refine r_st tab_ok rfl rfl rfl rfl ?_ | refine r_ev_cnd tab_ok rfl rfl rfl rfl rfl rfl byC (by first | exact fun _ => trivial | (intro h; simp at h; first | exact ⟨by omega, by omega⟩ | omega)) rfl ?_ | refine r_idx_cnd tab_ok rfl rfl rfl rfl rfl rfl rfl byC rfl rfl (by exact ⟨by omega, by omega⟩) rfl rfl ?_))
        simp only [Int.toNat_natCast, hgk]
        try simp only [Int.toNat_natCast, hgk]
        refine r_call_cnd (fun _ => rblock_ok m) call35 rfl rfl rfl rfl byC ⟨Sub.refl _, trivial⟩ rfl rfl rfl rfl ?_
        rw [hd]
        cases hb : blkB m with
        | true =>
          have hkl2 := nszs_at hkl
          rw [hgk] at hkl2
          have hkl3 := nszs_len m.kids
          repeat (first | refine awp_seq ?_ | refine thenA_normal ?_ | refine a_region ?_ | refine r_done ?_ | (refine r_id ?_; first | refine r_ev tab_ok rfl rfl rfl rfl byE rfl ?_ | refine r_idx tab_ok rfl rfl rfl rfl rfl rfl rfl (by first | exact ⟨by omega, by omega⟩ | (simp; omega)) rfl rfl ?_ | refine r_st tab_ok rfl rfl rfl rfl ?_ | refine r_and rfl rfl rfl rfl rfl rfl rfl rfl ?_) | refine awp_cond_t rfl ?_)
          try simp only [Int.toNat_natCast, hgk]
          refine r_call (show PCalls Tryz.prog 20 [.sl 7 (m.kids.map nD)] (.sl 3 ((decA m.kids 0).map dcD)) by rw [nD_fun]; exact rdecls_ok m.kids (by omega) hmt) call20 rfl rfl ⟨Sub.refl _, trivial⟩ rfl rfl rfl rfl ?_
          have hbl : blI l k = true := by rw [blI, hm, hb, decide_eq_true hkl]; rfl
          have hrl : rlAt l i = ⟨⟨#[]⟩, trimF ((l.take k).drop i), true, decA m.kids 0⟩ := by rw [rlAt, hen, hfr, hn, ha, hbl, hm]; rfl
          have hem : emI l i = [rlAt l i] := by rw [emI, hn, ha, hen, hbl]; rfl
          rw [hem, hrl] at heq
          repeat (first | refine awp_seq ?_ | refine thenA_normal ?_ | refine a_region ?_ | refine blockA_normal ?_ | refine r_done ?_ | (refine r_id ?_; first | refine r_ev tab_ok rfl rfl rfl rfl byE rfl ?_ | refine r_ld tab_ok rfl rfl rfl rfl rfl ?_ | refine r_st tab_ok rfl rfl rfl rfl ?_ | refine r_ev_cnd tab_ok rfl rfl rfl rfl rfl rfl byC (by first | exact fun _ => trivial | (intro h; simp at h; first | exact ⟨by omega, by omega⟩ | omega)) rfl ?_ | refine r_ld_cnd tab_ok rfl rfl rfl rfl rfl rfl byC rfl ?_ | refine r_or rfl rfl rfl rfl rfl rfl rfl rfl ?_ | refine r_built tab_ok rfl rfl rfl rfl rfl rfl rfl rfl rfl ?_ | refine r_append tab_ok rfl rfl rfl rfl rfl rfl rfl rfl rfl (by first | omega | (simp; omega)) rfl ?_) | refine awp_cond_t rfl ?_)
          refine ⟨⟨k + 1, out ++ [⟨⟨#[]⟩, trimF ((l.take k).drop i), true, decA m.kids 0⟩], by simp; omega, by omega, by rw [List.append_assoc]; exact heq⟩, by dsimp only; omega, ?_⟩
          dsimp only
          rw [show (out ++ [(⟨⟨#[]⟩, trimF ((l.take k).drop i), true, decA m.kids 0⟩ : Rl)]).map rlD = out.map rlD ++ [rlD ⟨⟨#[]⟩, trimF ((l.take k).drop i), true, decA m.kids 0⟩] from List.map_append]
          exact fits_trans (s' := ⟨[.row 0 45 4 (out.map rlD ++ [rlD ⟨⟨#[]⟩, trimF ((l.take k).drop i), true, decA m.kids 0⟩]), .gone, .gone], [(4, .sl 7 (l.map nF)), (5, .row 0 0), (6, .val (.int .i64 (k + 1 : Nat)))]⟩) (fits_conv byV ⟨c_sub rfl (Sub.refl _) rfl, c_row rfl rfl rfl, c_sub rfl (Sub.refl _) rfl, trivial⟩) (fits_drop 1 rfl rfl byK)
        | false =>
          have hbl : blI l k = false := by rw [blI, hm, hb, decide_eq_true hkl]; rfl
          have hem : emI l i = [] := by rw [emI, hn, ha, hen, hbl]; rfl
          rw [hem, List.nil_append] at heq
          repeat (first | refine awp_seq ?_ | refine thenA_normal ?_ | refine a_region ?_ | refine blockA_normal ?_ | refine awp_skip ?_ | refine r_done ?_ | (refine r_id ?_; first | refine r_ev tab_ok rfl rfl rfl rfl byE rfl ?_ | refine r_ev_cnd tab_ok rfl rfl rfl rfl rfl rfl byC (by first | exact fun _ => trivial | (intro h; simp at h; first | exact ⟨by omega, by omega⟩ | omega)) rfl ?_ | refine r_ld_cnd tab_ok rfl rfl rfl rfl rfl rfl byC rfl ?_ | refine r_or rfl rfl rfl rfl rfl rfl rfl rfl ?_ | refine r_and rfl rfl rfl rfl rfl rfl rfl rfl ?_) | refine awp_cond_f rfl ?_)
          exact ⟨⟨k + 1, out, by omega, by omega, heq⟩, by dsimp only; omega, fits_drop 1 rfl rfl byK⟩
    · have he : k = kE := by omega
      subst he
      repeat (first | refine awp_seq ?_ | refine a_region ?_ | (refine r_id ?_; first | refine r_len tab_ok rfl rfl rfl rfl rfl rfl rfl ?_ | refine r_ev tab_ok rfl rfl rfl rfl byE rfl ?_ | refine r_off rfl rfl rfl rfl rfl rfl ?_) | refine r_pick_f rfl rfl (congrArg (fun b => AV.val (.bool b)) (decide_eq_false (by omega))) rfl rfl rfl rfl ?_ | refine r_off rfl rfl (congrArg (fun b => AV.val (.bool b)) (decide_eq_false (by omega))) rfl rfl rfl ?_)
      repeat refine r_offu rfl rfl rfl rfl rfl rfl ?_
      repeat (first | refine awp_seq ?_ | refine thenA_normal ?_ | refine a_region ?_ | refine awp_exit ?_ | refine r_done ?_ | (refine r_id ?_; first | refine r_ev tab_ok rfl rfl rfl rfl byE rfl ?_ | refine r_pick_f rfl rfl rfl rfl rfl rfl rfl ?_ | refine r_off rfl rfl rfl rfl rfl rfl ?_) | refine awp_cond_f rfl ?_)
      refine r_cut tab_ok rfl rfl rfl rfl rfl rfl rfl rfl (by show (0 : Int) ≤ ((i : Nat) : Int) ∧ ((i : Nat) : Int) ≤ ((k : Nat) : Int) ∧ ((k : Nat) : Int) ≤ (l.length : Int); omega) rfl ?_
      refine r_call (show PCalls Tryz.prog 36 [.sl 7 (((l.take ((k : Nat) : Int).toNat).drop (((i : Nat) : Int)).toNat).map nF)] (.sl 7 ((trimF ((l.take k).drop i)).map nF)) by
          simp only [Int.toNat_natCast]
          exact rtrim_ok ((l.take k).drop i) (by simp only [List.length_drop, List.length_take]; omega)) call36 rfl rfl ⟨Sub.refl _, trivial⟩ rfl rfl rfl rfl ?_
      repeat (first | refine awp_seq ?_ | refine thenA_normal ?_ | refine a_region ?_ | refine blockA_normal ?_ | refine awp_skip ?_ | refine r_done ?_ | (refine r_id ?_; first | refine r_len tab_ok rfl rfl rfl rfl rfl rfl rfl ?_ | refine r_ev tab_ok rfl rfl rfl rfl byE rfl ?_ | refine r_st tab_ok rfl rfl rfl rfl ?_ | refine r_pick_f rfl rfl rfl rfl rfl rfl rfl ?_ | refine r_ev_on tab_ok rfl rfl rfl rfl rfl rfl (by first | exact trivial | exact ⟨by omega, by omega⟩ | omega) rfl ?_ | refine r_ld_on tab_ok rfl rfl rfl rfl rfl rfl rfl ?_) | refine awp_cond_f rfl ?_ | refine r_pick_f rfl rfl (congrArg (fun b => AV.val (.bool b)) (decide_eq_false (by omega))) rfl rfl rfl rfl ?_ | refine r_off rfl rfl (congrArg (fun b => AV.val (.bool b)) (decide_eq_false (by omega))) rfl rfl rfl ?_)
      have hbl : blI l k = false := by rw [blI, decide_eq_false (by omega)]; rfl
      have hem : emI l i = [] := by rw [emI, hn, ha, hen, hbl]; rfl
      rw [hem, List.nil_append] at heq
      exact ⟨⟨k + 1, out, by omega, by omega, heq⟩, by dsimp only; omega, fits_drop 1 rfl rfl byK⟩
end Go.Proofs.YtiolnmfaeenlmaaGreatDoor
