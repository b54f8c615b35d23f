/- define.Parse; walked (of rules without the two descriptors that XI5 leaves out). -/
import Derived.Test.YtllmagfmbglefaaDoorI5
import Derived.Test.YtllmagfmbglefaaDoorI6
namespace Go.Proofs.YtllmagfmbglefaaDoor
open Go Go.RowKit
set_option maxRecDepth 20000

structure Rl where
  at_ : ByteArray
  pre : List Nd
  blk : Bool
  decls : List Dc
def rlC (r : Rl) : List AV := [.val (.string r.at_), .sl 7 (r.pre.map nF), .val (.bool r.blk), .sl 3 (r.decls.map dcD)]
def rlA (r : Rl) : AV := .agg (rlC r)
def rlD (r : Rl) : D := .ag [.val (.string r.at_), .sl 7 (r.pre.map nF), .val (.bool r.blk), .sl 3 (r.decls.map dcD)]
def zSd : Sd := ⟨⟨#[]⟩, ⟨#[]⟩, 0, [], [], ⟨#[]⟩, ⟨#[]⟩, ⟨#[]⟩, ⟨#[]⟩, false, [], 0, ⟨#[]⟩, ⟨#[]⟩, ⟨#[]⟩, 0, [], [], [], false, false⟩
def csS : ByteArray := ⟨#[99, 111, 117, 110, 116, 101, 114, 45, 115, 116, 121, 108, 101]⟩
def sd0 (n : ByteArray) : Sd := { zSd with name := n, system := qV, first := 1, neg1 := ⟨#[45]⟩, suf := ⟨#[46, 32]⟩, auto := true, fall := ⟨#[100, 101, 99, 105, 109, 97, 108]⟩ }
def wF (S : Sd) (l : List Dc) : Sd := l.foldl (fun S d => (sayD S d).1) S
def endP1 (S : Sd) : Sd := if S.system = y8 then { S with symbols := S.sums, weights := S.wts } else { S with symbols := S.syms }
def endP (S : Sd) : Sd × Int :=
  if S.system = wS ∧ (S.symbolic || S.additive) = true then (zSd, 2) else
  if mayD (endP1 S) then (endP1 S, 0) else (zSd, 2)
def defP (r : Rl) : Sd × Int :=
  if r.at_ = csS ∧ r.blk = true then
    (if (nmF r.pre).2 && !qo fixN (v7 (nmF r.pre).1) then endP (wF (sd0 (nmF r.pre).1) r.decls) else (zSd, 2))
  else (zSd, 1)
theorem said_sys (S : Sd) (l : List Nd) : (kF S l).1.said = S.said := by
  unfold kF sysF1
  repeat' split
  all_goals rfl
theorem said64 (S : Sd) (d : Dc) (h : S.said < 64) : (sayD S d).1.said < 64 := by
  have ho : ∀ k, k < 64 → S.said ||| k < 64 := fun k hk => Nat.or_lt_two_pow (n := 6) h hk
  unfold sayD zw
  split
  · exact h
  split
  · rw [said_sys]; exact h
  all_goals unfold yy z7 padF falF ks
  repeat' split
  all_goals first | exact h | exact ho _ (by decide)
theorem said_all : ∀ (l : List Dc) (S : Sd), S.said < 64 → (wF S l).said < 64
  | [], _, h => h
  | d :: r, S, h => said_all r _ (said64 S d h)
theorem sayAll_succ (S : Sd) (l : List Dc) {i : Nat} (h : i < l.length) : wF S (l.take (i + 1)) = (sayD (wF S (l.take i)) l[i]).1 := by
  rw [wF, List.take_add_one, List.getElem?_eq_getElem h, List.foldl_append]
  rfl
def zDf : AB := .box 47 [.val (.string ⟨#[]⟩), .val (.string ⟨#[]⟩), .val (.int .i64 0), .val (.slice none 0 0), .val (.slice none 0 0), .val (.string ⟨#[]⟩), .val (.string ⟨#[]⟩), .val (.string ⟨#[]⟩), .val (.string ⟨#[]⟩), .val (.bool false), .val (.slice none 0 0), .val (.int .i64 0), .val (.string ⟨#[]⟩), .val (.string ⟨#[]⟩), .val (.string ⟨#[]⟩), .val (.int .i64 0)]
/-- What a rule must be for the walk. -/
structure RlOk (r : Rl) : Prop where
  pz : vu r.pre < 1099511627776
  pt : ∀ n ∈ r.pre, n.tok.text.size ≤ 1099511627776
  dl : r.decls.length ≤ 1099511627776
  dn : ∀ d ∈ r.decls, d.name ≠ negS ∧ d.name ≠ addS
  dz : ∀ d ∈ r.decls, vu d.value < 1099511627776
  dt : ∀ d ∈ r.decls, ∀ n ∈ d.value, n.tok.text.size ≤ 1099511627776
  nz : (nmF r.pre).1.size ≤ 1099511627776
  s1 : (wF (sd0 (nmF r.pre).1) r.decls).syms.length ≤ 65536
  s2 : (wF (sd0 (nmF r.pre).1) r.decls).sums.length ≤ 65536
  s3 : (wF (sd0 (nmF r.pre).1) r.decls).wts.length ≤ 65536
  s4 : (wF (sd0 (nmF r.pre).1) r.decls).range.length ≤ 65536
  s5 : (wF (sd0 (nmF r.pre).1) r.decls).weights.length ≤ 65536
  s6 : (wF (sd0 (nmF r.pre).1) r.decls).system ≠ y8
theorem StepG.offu {P : Program} {ops : Array Oper} {o : Oper} {M : List AB} {F : Nat → AV} {j : Nat} {want : Bool} {g : Tmp} (hg : o.guard = some (j, want)) (hj : wx ops j = some g) (hF : F g = .val undef) : StepG P ops o M F M (.val undef) := by
  intro S B β a w hm hs K Q hK
  have h1 := hs g (yh hg hj)
  rw [hF] at h1
  have hy := wE (a := a) hj h1
  have hw : Region.wanted o (yielded ops a.tmps) = false := by simp [Region.wanted, hg, hy, yw, undef]
  rw [hw]
  exact hK undef β w (Ev.refl _ _ _) hm rfl
/-- An operation whose guard was not carried out. -/
theorem r_offu {P : Program} {ops : Array Oper} {N : Nat} {K : AS → Prop} {o : Oper} {r : List Oper} {fo fo' : Option (List Nat)} {M : List AB} {F : List (Nat × AV)} {dt : Tmp} {j : Nat} {want : Bool} {g : Tmp} (hg : o.guard = some (j, want)) (hj : wx ops j = some g) (hF : uM F g = .val undef) (hdd : o.dst = some dt) (hd : vD o.dst N = true)
    (hp : vL fo 0 = some fo') (k : RunX P ops N K r fo' (M) ((dt, (.val undef)) :: F)) : RunX P ops N K (o :: r) fo M F :=
  RunX.mk (fun _ k => Run.pure_ hd (fun _ => StepG.offu hg hj hF) (by rw [va hdd]; exact k)) hp k
theorem r_eqs {P : Program} {ops : Array Oper} {N : Nat} {K : AS → Prop} {o : Oper} {r : List Oper} {fo fo' : Option (List Nat)} {M : List AB} {F : List (Nat × AV)} {dt : Tmp} {tab : List (Nat × TE)} {T U : TypeId} {x y : Operand} {s t : ByteArray} {b : Bool} (ht : TyTab P tab) (hg : o.guard = none) (ho : o.op = .binOp .eql T x y U) (hx : vc (uM F) x = .val (.string s)) (hy : vc (uM F) y = .val (.string t)) (hb : decide (s = t) = b)
    (hdd : o.dst = some dt) (hd : vD o.dst N = true) (hp : vL fo 0 = some fo') (k : RunX P ops N K r fo' M ((dt, .val (.bool b)) :: F)) : RunX P ops N K (o :: r) fo M F := by
  subst hb
  exact ul ht hg (by rw [ho]; simp only [ev, hx, hy, evBin]) hdd hd trivial hp k
set_option maxHeartbeats 8000000 in
theorem dparse_ok (r : Rl) (h : RlOk r) : uV Tryd.prog 36 [rlA r] (.tup [dfA (defP r).1, .val (.int .i64 (defP r).2)]) := by
  obtain ⟨pz, pt, dl, dn, dz, dt, nz, s1, s2, s3, s4, s5, s6⟩ := h
  have hdm : (r.decls.map dcD).length = r.decls.length := List.length_map _
  refine u1 Tryd.func36 Tryd.ntmps36 rfl rfl rfl fun S w => ?_
  by_cases hat : r.at_ = csS
  · cases hbk : r.blk with
    | false =>
      rw [show defP r = (zSd, 1) from if_neg (by rw [hbk]; rintro ⟨_, h⟩; cases h)]
      repeat (first | refine uf ?_ | refine uc ?_ | refine ud ?_ | refine ug ?_ | (refine uk ?_; first | refine ul tab_ok rfl rfl rfl rfl (by first | exact trivial | omega | exact nl rfl) rfl ?_ | refine u9 tab_ok rfl rfl rfl rfl rfl ?_ | refine vI tab_ok rfl rfl rfl rfl rfl ?_ | refine uB tab_ok rfl rfl rfl rfl rfl rfl (by first | exact fun _ => rfl | exact cs1 | exact cs2 | exact cs3) (by first | exact fun _ => trivial | (intro h; simp at h; omega)) rfl ?_ | refine vY tab_ok rfl rfl rfl rfl rfl rfl (by first | exact fun _ => rfl | exact cs1 | exact cs2 | exact cs3) rfl ?_ | refine we rfl rfl rfl rfl rfl rfl rfl rfl ?_))
      refine uH rfl (fun _ => ?_) (fun hno => ?_)
      · repeat (first | refine uf ?_ | refine uc ?_ | refine ud ?_ | refine un ?_ | refine ur ?_ | refine ug ?_ | (refine uk ?_; first | refine ul tab_ok rfl rfl rfl rfl (by first | exact trivial | omega | exact nl rfl) rfl ?_ | refine u3 tab_ok rfl rfl rfl rfl ?_ | refine vv tab_ok rfl rfl rfl rfl rfl rfl ?_))
        all_goals exact xa tab_ok (by simp) rfl rfl rfl rfl rfl rfl rfl (Sub.agg (by repeat' first | exact trivial | exact Sub.refl _ | exact Sub.nil _ | refine Sub.agg ?_ | apply And.intro)) (Sub.refl _)
      · exfalso
        simp [hbk] at hno
    | true =>
      rw [show defP r = (if (nmF r.pre).2 && !qo fixN (v7 (nmF r.pre).1) then endP (wF (sd0 (nmF r.pre).1) r.decls) else (zSd, 2)) from if_pos ⟨hat, hbk⟩]
      repeat (first | refine uf ?_ | refine uc ?_ | refine ud ?_ | refine ug ?_ | (refine uk ?_; first | refine ul tab_ok rfl rfl rfl rfl (by first | exact trivial | omega | exact nl rfl) rfl ?_ | refine u9 tab_ok rfl rfl rfl rfl rfl ?_ | refine vI tab_ok rfl rfl rfl rfl rfl ?_ | refine uB tab_ok rfl rfl rfl rfl rfl rfl (by first | exact fun _ => rfl | exact cs1 | exact cs2 | exact cs3) (by first | exact fun _ => trivial | (intro h; simp at h; omega)) rfl ?_ | refine vY tab_ok rfl rfl rfl rfl rfl rfl (by first | exact fun _ => rfl | exact cs1 | exact cs2 | exact cs3) rfl ?_ | refine we rfl rfl rfl rfl rfl rfl rfl rfl ?_))
      refine uH rfl (fun hyes => ?_) (fun _ => ?_)
      · exfalso
        rw [hbk] at hyes
        simp only [show r.at_ = ⟨#[99, 111, 117, 110, 116, 101, 114, 45, 115, 116, 121, 108, 101]⟩ from hat] at hyes
        simp at hyes
      repeat (first | refine uf ?_ | refine ud ?_ | refine uq ?_ | (refine uk ?_; first | refine ul tab_ok rfl rfl rfl rfl (by first | exact trivial | omega | exact nl rfl) rfl ?_ | refine u9 tab_ok rfl rfl rfl rfl rfl ?_))
      refine um (qH r.pre pz pt) vl rfl rfl ⟨Sub.refl _, trivial⟩ rfl rfl rfl rfl ?_
      repeat (first | refine uf ?_ | refine ud ?_ | refine ug ?_ | (refine uk ?_; first | refine ul tab_ok rfl rfl rfl rfl (by first | exact trivial | omega | exact nl rfl) rfl ?_ | refine uB tab_ok rfl rfl rfl rfl rfl rfl (by first | exact fun _ => rfl | exact cs1 | exact cs2 | exact cs3) (by first | exact fun _ => trivial | (intro h; simp at h; omega)) rfl ?_))
      refine vK (fun _ => fixed_ok (nmF r.pre).1 nz) call60 rfl rfl rfl rfl (by first | exact fun _ => rfl | exact cs1 | exact cs2 | exact cs3) ⟨Sub.refl _, trivial⟩ rfl rfl rfl rfl ?_
      repeat (first | refine uc ?_ | refine ug ?_ | (refine uk ?_; first | refine we rfl rfl rfl rfl rfl rfl rfl rfl ?_))
      refine uH rfl (fun hyes => ?_) (fun hno => ?_)
      · have e : ((nmF r.pre).2 && !qo fixN (v7 (nmF r.pre).1)) = false := by
          cases h1 : (nmF r.pre).2 <;> cases h2 : qo fixN (v7 (nmF r.pre).1) <;> simp [h1, h2] at hyes ⊢
        rw [e, if_neg Bool.false_ne_true]
        repeat (first | refine uf ?_ | refine uc ?_ | refine ud ?_ | refine un ?_ | refine ur ?_ | refine ug ?_ | (refine uk ?_; first | refine ul tab_ok rfl rfl rfl rfl (by first | exact trivial | omega | exact nl rfl) rfl ?_ | refine u3 tab_ok rfl rfl rfl rfl ?_ | refine vv tab_ok rfl rfl rfl rfl rfl rfl ?_))
        all_goals exact xa tab_ok (by simp) rfl rfl rfl rfl rfl rfl rfl (Sub.agg (by repeat' first | exact trivial | exact Sub.refl _ | exact Sub.nil _ | refine Sub.agg ?_ | apply And.intro)) (Sub.refl _)
      have e : ((nmF r.pre).2 && !qo fixN (v7 (nmF r.pre).1)) = true := by
        cases h1 : (nmF r.pre).2 <;> cases h2 : qo fixN (v7 (nmF r.pre).1) <;> simp [h1, h2] at hno ⊢
      rw [e, if_pos rfl]
      obtain ⟨nm, hnm⟩ : ∃ nm, nm = (nmF r.pre).1 := ⟨_, rfl⟩
      rw [← hnm] at s1 s2 s3 s4 s5 s6 ⊢
      repeat (first | refine uf ?_ | refine uc ?_ | refine uw ?_ | refine ud ?_ | refine uq ?_ | refine ug ?_ | (refine uk ?_; first | refine vf tab_ok rfl rfl rfl rfl rfl rfl rfl ?_ | refine ul tab_ok rfl rfl rfl rfl (by first | exact trivial | omega | exact nl rfl) rfl ?_ | refine u9 tab_ok rfl rfl rfl rfl rfl ?_ | refine vI tab_ok rfl rfl rfl rfl rfl ?_ | refine vv tab_ok rfl rfl rfl rfl rfl rfl ?_))
      refine vk (σ := {i : Nat // i ≤ r.decls.length}) (fun x => [.box 85 (rlC r), zDf, sdB (wF (sd0 nm) (r.decls.take x.1))]) (fun x => [(2, .ptr 1 0), (6, .ptr 2 0), (37, .sl 3 (r.decls.map dcD)), (38, .val (.int .i64 r.decls.length)), (39, .val (.int .i64 x.1))]) (fun x => r.decls.length - x.1) ⟨0, Nat.zero_le _⟩ (uK (by repeat' first | exact trivial | exact rfl | (rw [List.map_append]; first | done | rfl) | exact ue rfl (Sub.refl _) rfl | exact ut rfl rfl | exact uo rfl rfl rfl | exact uj rfl rfl rfl | exact uj rfl rfl (by rw [List.map_append]; first | done | rfl) | exact uh rfl rfl rfl rfl | exact Or.inl ⟨ue rfl (Sub.refl _) rfl, uh rfl rfl rfl rfl⟩ | exact uu rfl rfl rfl rfl | exact uC rfl rfl | exact uD rfl rfl | exact ue rfl (Sub.altl _ _) rfl | exact ue rfl (Sub.nil _) rfl | refine ⟨_, _, rfl, ?_, ?_⟩ | apply And.intro) (by repeat' first | exact trivial | exact rfl | (rw [List.map_append]; first | done | rfl) | exact ue rfl (Sub.refl _) rfl | exact ut rfl rfl | exact uo rfl rfl rfl | exact uj rfl rfl rfl | exact uj rfl rfl (by rw [List.map_append]; first | done | rfl) | exact uh rfl rfl rfl rfl | exact Or.inl ⟨ue rfl (Sub.refl _) rfl, uh rfl rfl rfl rfl⟩ | exact uu rfl rfl rfl rfl | exact uC rfl rfl | exact uD rfl rfl | exact ue rfl (Sub.altl _ _) rfl | exact ue rfl (Sub.nil _) rfl | refine ⟨_, _, rfl, ?_, ?_⟩ | apply And.intro)) ?_
      rintro ⟨i, hi⟩
      dsimp only
      repeat (first | refine uf ?_ | refine ud ?_ | refine ug ?_ | (refine uk ?_; first | refine ul tab_ok rfl rfl rfl rfl (by first | exact trivial | omega | exact nl rfl) rfl ?_))
      refine uz rfl (fun hlt => ?_) (fun hge => ?_)
      · have hlt : i < r.decls.length := by omega
        have hmem : r.decls[i] ∈ r.decls := List.getElem_mem hlt
        have h64 := said_all (r.decls.take i) (sd0 nm) (by show 0 < 64; omega)
        have hsay := dsay_ok (wF (sd0 nm) (r.decls.take i)) r.decls[i] (dn _ hmem).1 (dn _ hmem).2 (dz _ hmem) (dt _ hmem) (by omega)
        repeat (first | refine uf ?_ | refine uc ?_ | refine uw ?_ | refine ud ?_ | refine uq ?_ | refine ug ?_ | (refine uk ?_; first | refine ul tab_ok rfl rfl rfl rfl (by first | exact trivial | omega | exact nl rfl) rfl ?_ | refine u9 tab_ok rfl rfl rfl rfl rfl ?_ | refine wk tab_ok rfl rfl rfl rfl rfl rfl rfl (by first | exact ⟨by omega, by omega⟩ | (simp; omega)) rfl rfl ?_ | refine vI tab_ok rfl rfl rfl rfl rfl ?_ | refine u3 tab_ok rfl rfl rfl rfl ?_))
        simp only [Int.toNat_natCast]
        refine vJ [2] hsay call61 rfl rfl ⟨rfl, trivial⟩ (by decide) ⟨Sub.refl _, Sub.refl _, trivial⟩ rfl rfl rfl rfl rfl rfl rfl ?_
        repeat (first | refine uc ?_ | refine ud ?_ | refine ug ?_ | (refine uk ?_; first | refine ul tab_ok rfl rfl rfl rfl (by first | exact trivial | omega | exact nl rfl) rfl ?_))
        refine ⟨⟨i + 1, hlt⟩, by dsimp only; omega, ?_⟩
        dsimp only
        rw [sayAll_succ _ _ hlt]
        exact vz 3 rfl rfl (by repeat' first | exact trivial | exact Sub.refl _ | exact rfl | apply And.intro)
      have : i = r.decls.length := by omega
      subst this
      rw [List.take_length]
      generalize wF (sd0 nm) r.decls = S at s1 s2 s3 s4 s5 s6 ⊢
      repeat (first | refine uf ?_ | refine uw ?_ | refine uP ?_)
      by_cases hx : S.system = wS
      · obtain ⟨x1, x2, x3, x4, x5, x6, x7, x8, x9, x10, x11, x12, x13, x14, x15, x16, x17, x18, x19, x20, x21⟩ := S
        have hx2 : x2 = wS := hx
        subst hx2
        cases x20 with
        | true =>
          rw [show endP ⟨x1, wS, x3, x4, x5, x6, x7, x8, x9, x10, x11, x12, x13, x14, x15, x16, x17, x18, x19, true, x21⟩ = (zSd, 2) from if_pos ⟨rfl, rfl⟩]
          repeat (first | refine uf ?_ | refine uc ?_ | refine ud ?_ | refine un ?_ | refine ur ?_ | refine uE ?_ | refine ug ?_ | (refine uk ?_; first | refine ul tab_ok rfl rfl rfl rfl (by first | exact trivial | omega | exact nl rfl) rfl ?_ | refine u9 tab_ok rfl rfl rfl rfl rfl ?_ | refine u3 tab_ok rfl rfl rfl rfl ?_ | refine ux rfl rfl rfl rfl rfl rfl rfl ?_ | refine vG rfl rfl rfl rfl rfl rfl ?_ | refine u2 tab_ok rfl rfl rfl rfl rfl rfl (by first | exact trivial | omega) rfl ?_ | refine wP tab_ok rfl rfl rfl rfl rfl rfl rfl ?_ | refine vv tab_ok rfl rfl rfl rfl rfl rfl ?_ | refine uS rfl rfl rfl rfl rfl rfl rfl ?_) | refine uA rfl ?_ | refine r_g rfl rfl rfl ?_)
          repeat refine r_offu rfl rfl rfl rfl rfl rfl ?_
          all_goals exact xa tab_ok (by simp) rfl rfl rfl rfl rfl rfl rfl (Sub.agg (by repeat' first | exact trivial | exact Sub.refl _ | exact Sub.nil _ | refine Sub.agg ?_ | apply And.intro)) (Sub.refl _)
        | false =>
          cases x21 with
          | true =>
            rw [show endP ⟨x1, wS, x3, x4, x5, x6, x7, x8, x9, x10, x11, x12, x13, x14, x15, x16, x17, x18, x19, false, true⟩ = (zSd, 2) from if_pos ⟨rfl, rfl⟩]
            repeat (first | refine uf ?_ | refine uc ?_ | refine ud ?_ | refine un ?_ | refine ur ?_ | refine uE ?_ | refine ug ?_ | (refine uk ?_; first | refine ul tab_ok rfl rfl rfl rfl (by first | exact trivial | omega | exact nl rfl) rfl ?_ | refine u9 tab_ok rfl rfl rfl rfl rfl ?_ | refine u3 tab_ok rfl rfl rfl rfl ?_ | refine ux rfl rfl rfl rfl rfl rfl rfl ?_ | refine uX rfl rfl rfl rfl rfl rfl rfl ?_ | refine u2 tab_ok rfl rfl rfl rfl rfl rfl (by first | exact trivial | omega) rfl ?_ | refine wP tab_ok rfl rfl rfl rfl rfl rfl rfl ?_ | refine vv tab_ok rfl rfl rfl rfl rfl rfl ?_ | refine uS rfl rfl rfl rfl rfl rfl rfl ?_) | refine uA rfl ?_ | refine r_g rfl rfl rfl ?_)
            all_goals exact xa tab_ok (by simp) rfl rfl rfl rfl rfl rfl rfl (Sub.agg (by repeat' first | exact trivial | exact Sub.refl _ | exact Sub.nil _ | refine Sub.agg ?_ | apply And.intro)) (Sub.refl _)
          | false =>
            rw [show endP ⟨x1, wS, x3, x4, x5, x6, x7, x8, x9, x10, x11, x12, x13, x14, x15, x16, x17, x18, x19, false, false⟩ = (if mayD ⟨x1, wS, x3, x17, x5, x6, x7, x8, x9, x10, x11, x12, x13, x14, x15, x16, x17, x18, x19, false, false⟩ then (⟨x1, wS, x3, x17, x5, x6, x7, x8, x9, x10, x11, x12, x13, x14, x15, x16, x17, x18, x19, false, false⟩, 0) else (zSd, 2) : Sd × Int) from if_neg (fun h => Bool.false_ne_true h.2)]
            repeat (first | refine uf ?_ | refine uc ?_ | refine ud ?_ | refine ug ?_ | (refine uk ?_; first | refine ul tab_ok rfl rfl rfl rfl (by first | exact trivial | omega | exact nl rfl) rfl ?_ | refine u9 tab_ok rfl rfl rfl rfl rfl ?_ | refine u3 tab_ok rfl rfl rfl rfl ?_ | refine ux rfl rfl rfl rfl rfl rfl rfl ?_ | refine uX rfl rfl rfl rfl rfl rfl rfl ?_ | refine u2 tab_ok rfl rfl rfl rfl rfl rfl (by first | exact trivial | omega) rfl ?_ | refine wP tab_ok rfl rfl rfl rfl rfl rfl rfl ?_ | refine uS rfl rfl rfl rfl rfl rfl rfl ?_) | refine uF rfl ?_ | refine r_g rfl rfl rfl ?_)
            refine um (smay_ok ⟨x1, wS, x3, x17, x5, x6, x7, x8, x9, x10, x11, x12, x13, x14, x15, x16, x17, x18, x19, false, false⟩ s1 s5 s4) call23 rfl rfl ⟨Sub.refl _, trivial⟩ rfl rfl rfl rfl ?_
            cases hm : mayD ⟨x1, wS, x3, x17, x5, x6, x7, x8, x9, x10, x11, x12, x13, x14, x15, x16, x17, x18, x19, false, false⟩ with
            | true =>
              rw [if_pos rfl]
              repeat (first | refine uf ?_ | refine uc ?_ | refine ud ?_ | refine un ?_ | refine uq ?_ | refine ug ?_ | (refine uk ?_; first | refine ul tab_ok rfl rfl rfl rfl (by first | exact trivial | omega | exact nl rfl) rfl ?_ | refine u9 tab_ok rfl rfl rfl rfl rfl ?_ | refine u3 tab_ok rfl rfl rfl rfl ?_ | refine uS rfl rfl rfl rfl rfl rfl rfl ?_) | refine uF rfl ?_)
              all_goals exact xa tab_ok (by simp) rfl rfl rfl rfl rfl rfl rfl (Sub.refl _) (Sub.refl _)
            | false =>
              rw [if_neg Bool.false_ne_true]
              repeat (first | refine uf ?_ | refine uc ?_ | refine ud ?_ | refine un ?_ | refine ur ?_ | refine ug ?_ | (refine uk ?_; first | refine ul tab_ok rfl rfl rfl rfl (by first | exact trivial | omega | exact nl rfl) rfl ?_ | refine u3 tab_ok rfl rfl rfl rfl ?_ | refine vv tab_ok rfl rfl rfl rfl rfl rfl ?_) | refine uA rfl ?_)
              all_goals exact xa tab_ok (by simp) rfl rfl rfl rfl rfl rfl rfl (Sub.agg (by repeat' first | exact trivial | exact Sub.refl _ | exact Sub.nil _ | refine Sub.agg ?_ | apply And.intro)) (Sub.refl _)
      · rw [show endP S = if mayD (endP1 S) then (endP1 S, 0) else (zSd, 2) from if_neg (fun h => hx h.1), show endP1 S = { S with symbols := S.syms } from if_neg s6]
        refine ud ?_
        refine ul tab_ok rfl rfl rfl rfl trivial rfl ?_
        repeat (first | (refine uk ?_; first | refine uS rfl rfl rfl rfl rfl rfl rfl ?_))
        refine ul tab_ok rfl rfl rfl rfl trivial rfl ?_
        refine ul tab_ok rfl rfl rfl rfl trivial rfl ?_
        repeat (first | (refine uk ?_; first | refine u9 tab_ok rfl rfl rfl rfl rfl ?_))
        refine r_eqs tab_ok rfl rfl rfl rfl (decide_eq_false (show ¬ S.system = ⟨#[101, 120, 116, 101, 110, 100, 115]⟩ from hx)) rfl rfl rfl ?_
        repeat (first | (refine uk ?_; first | refine ul tab_ok rfl rfl rfl rfl (by first | exact trivial | omega | exact nl rfl) rfl ?_ | refine vG rfl rfl rfl rfl rfl rfl ?_))
        repeat refine r_offu rfl rfl rfl rfl rfl rfl ?_
        repeat (first | refine uf ?_ | refine uc ?_ | refine ud ?_ | refine ug ?_ | (refine uk ?_; first | refine ul tab_ok rfl rfl rfl rfl (by first | exact trivial | omega | exact nl rfl) rfl ?_ | refine u9 tab_ok rfl rfl rfl rfl rfl ?_ | refine uX rfl rfl rfl rfl rfl rfl rfl ?_ | refine vG rfl rfl rfl rfl rfl rfl ?_ | refine uS rfl rfl rfl rfl rfl rfl rfl ?_) | refine uF rfl ?_)
        refine uz rfl (fun h => absurd h s6) (fun _ => ?_)
        repeat (first | refine uf ?_ | refine ud ?_ | refine ug ?_ | (refine uk ?_; first | refine ul tab_ok rfl rfl rfl rfl (by first | exact trivial | omega | exact nl rfl) rfl ?_ | refine u9 tab_ok rfl rfl rfl rfl rfl ?_ | refine u3 tab_ok rfl rfl rfl rfl ?_ | refine uS rfl rfl rfl rfl rfl rfl rfl ?_))
        refine um (smay_ok { S with symbols := S.syms } s1 s5 s4) call23 rfl rfl ⟨Sub.refl _, trivial⟩ rfl rfl rfl rfl ?_
        cases hm : mayD { S with symbols := S.syms } with
        | true =>
          rw [if_pos rfl]
          repeat (first | refine uf ?_ | refine uc ?_ | refine ud ?_ | refine un ?_ | refine uq ?_ | refine ug ?_ | (refine uk ?_; first | refine ul tab_ok rfl rfl rfl rfl (by first | exact trivial | omega | exact nl rfl) rfl ?_ | refine u9 tab_ok rfl rfl rfl rfl rfl ?_ | refine u3 tab_ok rfl rfl rfl rfl ?_ | refine uS rfl rfl rfl rfl rfl rfl rfl ?_) | refine uF rfl ?_)
          all_goals exact xa tab_ok (by simp) rfl rfl rfl rfl rfl rfl rfl (Sub.refl _) (Sub.refl _)
        | false =>
          rw [if_neg Bool.false_ne_true]
          repeat (first | refine uf ?_ | refine uc ?_ | refine ud ?_ | refine un ?_ | refine ur ?_ | refine ug ?_ | (refine uk ?_; first | refine ul tab_ok rfl rfl rfl rfl (by first | exact trivial | omega | exact nl rfl) rfl ?_ | refine u3 tab_ok rfl rfl rfl rfl ?_ | refine vv tab_ok rfl rfl rfl rfl rfl rfl ?_) | refine uA rfl ?_)
          all_goals exact xa tab_ok (by simp) rfl rfl rfl rfl rfl rfl rfl (Sub.agg (by repeat' first | exact trivial | exact Sub.refl _ | exact Sub.nil _ | refine Sub.agg ?_ | apply And.intro)) (Sub.refl _)
  · rw [show defP r = (zSd, 1) from if_neg (fun h => hat h.1)]
    have hat2 : ¬ r.at_ = ⟨#[99, 111, 117, 110, 116, 101, 114, 45, 115, 116, 121, 108, 101]⟩ := hat
    repeat (first | refine uf ?_ | refine uc ?_ | refine ud ?_ | refine ug ?_ | (refine uk ?_; first | refine ul tab_ok rfl rfl rfl rfl (by first | exact trivial | omega | exact nl rfl) rfl ?_ | refine u9 tab_ok rfl rfl rfl rfl rfl ?_ | refine vI tab_ok rfl rfl rfl rfl rfl ?_ | refine uB tab_ok rfl rfl rfl rfl rfl rfl (by first | exact fun _ => rfl | exact cs1 | exact cs2 | exact cs3) (by first | exact fun _ => trivial | (intro h; simp at h; omega)) rfl ?_ | refine vY tab_ok rfl rfl rfl rfl rfl rfl (by first | exact fun _ => rfl | exact cs1 | exact cs2 | exact cs3) rfl ?_ | refine we rfl rfl rfl rfl rfl rfl rfl rfl ?_))
    refine uH rfl (fun _ => ?_) (fun hno => ?_)
    · repeat (first | refine uf ?_ | refine uc ?_ | refine ud ?_ | refine un ?_ | refine ur ?_ | refine ug ?_ | (refine uk ?_; first | refine ul tab_ok rfl rfl rfl rfl (by first | exact trivial | omega | exact nl rfl) rfl ?_ | refine u3 tab_ok rfl rfl rfl rfl ?_ | refine vv tab_ok rfl rfl rfl rfl rfl rfl ?_))
      all_goals exact xa tab_ok (by simp) rfl rfl rfl rfl rfl rfl rfl (Sub.agg (by repeat' first | exact trivial | exact Sub.refl _ | exact Sub.nil _ | refine Sub.agg ?_ | apply And.intro)) (Sub.refl _)
    · exfalso
      simp [hat2] at hno
end Go.Proofs.YtllmagfmbglefaaDoor
