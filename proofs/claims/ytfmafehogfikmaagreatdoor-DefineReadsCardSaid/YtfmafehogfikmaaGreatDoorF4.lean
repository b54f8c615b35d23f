import Derived.Test.YtfmafehogfikmaaGreatDoorWd
import Derived.Test.YtfmafehogfikmaaGreatDoorG5
import Derived.Laws.DeepNot64
import Derived.Test.YtfmafehogfikmaaGreatDoorK7
/- strings.Fields of a text of plain letters: where its words stand. -/
namespace Go.Proofs.YtfmafehogfikmaaGreatDoor
open Go Go.RowKit

def z0 (b : UInt8) : Bool := decide (b.toNat = 32) || (decide (9 ≤ b.toNat) && decide (b.toNat ≤ 13))
def qJ (s : ByteArray) (i : Nat) : UInt8 := s.data.toList.getD i 0
/-- Where the words stand. -/
def spP : Option Nat → Nat → List UInt8 → List (Nat × Nat)
  | none, _, [] => []
  | some a, pos, [] => [(a, pos)]
  | none, pos, b :: r => if z0 b then spP none (pos + 1) r else spP (some pos) (pos + 1) r
  | some a, pos, b :: r => if z0 b then (a, pos) :: spP none (pos + 1) r else spP (some a) (pos + 1) r
def cutF (s : ByteArray) (L : List (Nat × Nat)) : List ByteArray := L.map fun p => s.extract p.1 p.2
def yZ (s : ByteArray) : List ByteArray := cutF s (spP none 0 s.data.toList)
def cntS (x : Nat × Bool) (b : UInt8) : Nat × Bool := (x.1 + (if x.2 && !z0 b then 1 else 0), z0 b)
theorem cnt_len : ∀ (l : List UInt8) (st : Option Nat) (pos n : Nat), (l.foldl cntS (n, st.isNone)).1 + (if st.isSome then 1 else 0) = n + (spP st pos l).length
  | [], none, _, _ => rfl
  | [], some _, _, _ => rfl
  | b :: r, none, pos, n => by
    rw [List.foldl_cons, spP, cntS]
    cases h : z0 b with
    | true =>
      have := cnt_len r none (pos + 1) n
      simpa using this
    | false =>
      have := cnt_len r (some pos) (pos + 1) (n + 1)
      simp at this ⊢
      omega
  | b :: r, some a, pos, n => by
    rw [List.foldl_cons, spP, cntS]
    cases h : z0 b with
    | true =>
      have := cnt_len r none (pos + 1) n
      simp at this ⊢
      omega
    | false =>
      have := cnt_len r (some a) (pos + 1) n
      simpa using this
theorem cnt_all (l : List UInt8) : (l.foldl cntS (0, true)).1 = (spP none 0 l).length := by
  have := cnt_len l none 0 0
  simpa using this
theorem cnt_le : ∀ (l : List UInt8) (x : Nat × Bool), (l.foldl cntS x).1 ≤ x.1 + l.length
  | [], _ => Nat.le_refl _
  | b :: r, x => by
    rw [List.foldl_cons, List.length_cons]
    refine Nat.le_trans (cnt_le r _) ?_
    rw [cntS]
    dsimp only
    split <;> omega
theorem cnt_snoc (l : List UInt8) (b : UInt8) (x : Nat × Bool) : (l ++ [b]).foldl cntS x = cntS (l.foldl cntS x) b := by rw [List.foldl_append]; rfl
theorem drop_atA {s : ByteArray} {i : Nat} (h : i < s.size) : s.data.toList.drop i = qJ s i :: s.data.toList.drop (i + 1) := by
  have hl : i < s.data.toList.length := by rw [xa]; exact h
  rw [List.drop_eq_getElem_cons hl, qJ, List.getD_eq_getElem?_getD, List.getElem?_eq_getElem hl]; rfl
theorem take_atA {s : ByteArray} {i : Nat} (h : i < s.size) : s.data.toList.take (i + 1) = s.data.toList.take i ++ [qJ s i] := by
  have hl : i < s.data.toList.length := by rw [xa]; exact h
  rw [List.take_add_one, qJ, List.getD_eq_getElem?_getD, List.getElem?_eq_getElem hl]; rfl
/-- A text of plain letters: each byte is below 128. -/
def plainS (s : ByteArray) : Bool := s.data.toList.all fun b => decide (b.toNat < 128)
theorem plain_at {s : ByteArray} (h : plainS s = true) {i : Nat} (hi : i < s.size) : (qJ s i).toNat < 128 := by
  have hl : i < s.data.toList.length := by rw [xa]; exact hi
  rw [qJ, List.getD_eq_getElem?_getD, List.getElem?_eq_getElem hl]
  have := (List.all_eq_true.1 h) _ (List.getElem_mem hl)
  exact of_decide_eq_true this
/-- What the table of White says. -/
def ascV (b : UInt8) : Value := .int .u8 ((z0 b).toNat : Int)
theorem ascV_at (b : UInt8) : ((List.range 256).map fun k => Value.int .u8 (if k = 32 ∨ (9 ≤ k ∧ k ≤ 13) then 1 else 0))[b.toNat]? = some (ascV b) := by
  have h : b.toNat < 256 := UInt8.toNat_lt b
  rw [List.getElem?_map, List.getElem?_range h]
  show some (Value.int .u8 _) = some (ascV b)
  rw [ascV, z0]
  congr 2
  by_cases h1 : b.toNat = 32 <;> by_cases h2 : 9 ≤ b.toNat <;> by_cases h3 : b.toNat ≤ 13 <;> simp [h1, h2, h3]
section
variable {P : Program} {o : Oper} {M : List AB} {ρ : Operand → AV}
/-- A place in a listed table. -/
theorem qF {T g n e : Nat} {ee : TE} {L : List Value} {y : Operand} {q : IntKind} {c : Int} {v : Value} (ho : o.op = .indexAddr T (.global g) y) (hu : P.underlying T = some (.array n e)) (he : teOf P e = some ee) (hsz : ee.size = 1) (hg : (g, L) ∈ glL)
    (hy : ρ y = .val (.int q c)) (hc : 0 ≤ c ∧ c < n) (hv : L[c.toNat]? = some v) : AStep P o M ρ M (.dptr [.val v]) :=
  .value fun S B β a w hm hs => by
    have h2 := hs y (by simp [ho, Op.operands])
    rw [hy] at h2
    have h2 : a.eval y = .int q c := h2
    obtain ⟨g1, g2⟩ := hm.gl _ hg
    refine ⟨.pointer (some ⟨g, c.toNat, none⟩), ?_, g, c.toNat, [v], rfl, g1, ⟨v, [], rfl, rfl, rfl⟩, fun j u hj => ?_⟩
    · have h3 : a.eval (.global g) = .pointer (some ⟨g, 0, none⟩) := rfl
      simp [execOp, ho, h2, h3, Instr.indexAt, asIntOf, run_underlying hu, Instr.sureAddr, hc, vP he, wX, hsz]
    · match j, hj with
      | 0, hj => cases hj; exact g2 _ _ hv
def smallV (v : Value) : Prop := ∃ k : Nat, k < 128 ∧ v = .int .u8 (k : Int)
theorem astep_or_small {t u : Nat} {x y : Operand} {b : Nat} (ho : o.op = .binOp .or t x y u) (hx : ρ x = .pr smallV) (hy : ρ y = .val (.int .u8 (b : Int))) (hb : b < 128) : AStep P o M ρ M (.pr smallV) :=
  .value fun S B β A w _ hs => by
    have h1 := hs x (by simp [ho, Op.operands])
    have h2 := hs y (by simp [ho, Op.operands])
    rw [hx] at h1; rw [hy] at h2
    have h2 : A.eval y = .int .u8 b := h2
    obtain ⟨k, hk, h1⟩ := h1
    refine ⟨.int .u8 ((k ||| b : Nat) : Int), ?_, k ||| b, Nat.or_lt_two_pow (n := 7) hk hb, rfl⟩
    have e : (Op.intBits .or .u8 (k : Int) (b : Int)).run P w = .ok (.int .u8 ((k ||| b : Nat) : Int)) w := by
      have hlt : k ||| b < 128 := Nat.or_lt_two_pow (n := 7) hk hb
      have h3 : (BitVec.ofInt 8 (k : Int) ||| BitVec.ofInt 8 (b : Int)).toNat = k ||| b := by
        rw [BitVec.toNat_or]
        simp only [BitVec.ofInt_natCast, BitVec.toNat_ofNat]
        rw [Nat.mod_eq_of_lt (by omega), Nat.mod_eq_of_lt (by omega)]
      have h4 : IntKind.u8.wrap ((k ||| b : Nat) : Int) = ((k ||| b : Nat) : Int) := by
        simp only [IntKind.wrap, IntKind.bits, IntKind.signed]
        simp
        omega
      show (pure (Value.int .u8 (IntKind.u8.wrap ((BitVec.ofInt 8 (k : Int) ||| BitVec.ofInt 8 (b : Int)).toNat : Int))) : Sem Value).run P w = _
      rw [h3, h4]; rfl
    simp [execOp, ho, h1, h2, eqGuard, binOp, e]
theorem astep_geq_small {t u : Nat} {x y : Operand} (ho : o.op = .binOp .geq t x y u) (hx : ρ x = .pr smallV) (hy : ρ y = .val (.int .u8 128)) : AStep P o M ρ M (.val (.bool false)) :=
  .value fun S B β A w _ hs => by
    have h1 := hs x (by simp [ho, Op.operands])
    have h2 := hs y (by simp [ho, Op.operands])
    rw [hx] at h1; rw [hy] at h2
    have h2 : A.eval y = .int .u8 128 := h2
    obtain ⟨k, hk, h1⟩ := h1
    refine ⟨.bool false, ?_, rfl⟩
    have : ¬ (128 : Int) ≤ k := by omega
    simp [execOp, ho, h1, h2, eqGuard, binOp, Op.intCmp, this]
theorem astep_and_lit {t u : Nat} {x y : Operand} {a b c : Int} (ho : o.op = .binOp .and t x y u) (hx : ρ x = .val (.int .i64 a)) (hy : ρ y = .val (.int .i64 b)) (h : ∀ w, (Op.intBits .and .i64 a b).run P w = .ok (.int .i64 c) w) : AStep P o M ρ M (.val (.int .i64 c)) :=
  .value fun S B β A w _ hs => by
    have h1 := hs x (by simp [ho, Op.operands])
    have h2 := hs y (by simp [ho, Op.operands])
    rw [hx] at h1; rw [hy] at h2
    have h1 : A.eval x = .int .i64 a := h1
    have h2 : A.eval y = .int .i64 b := h2
    exact ⟨.int .i64 c, by simp [execOp, ho, h1, h2, eqGuard, binOp, h w], rfl⟩
theorem and01 (P : Program) (p q : Bool) (w : World) : (Op.intBits .and .i64 (p.toNat : Int) (-1 - (q.toNat : Int))).run P w = .ok (.int .i64 ((p && !q).toNat : Int)) w := by
  cases p <;> cases q <;> rfl
theorem astep_not64' {t : Nat} {x : Operand} {a : Nat} (ho : o.op = .unOp .xor t x) (hx : ρ x = .val (.int .i64 (a : Int))) (ha : a < 9223372036854775808) : AStep P o M ρ M (.val (.int .i64 (-1 - (a : Int)))) :=
  .value fun S B β A w _ hs => by
    have h1 := hs x (by simp [ho, Op.operands])
    rw [hx] at h1
    have h1 : A.eval x = .int .i64 a := h1
    have h2 := i64_not a ha
    refine ⟨.int .i64 (-1 - (a : Int)), ?_, rfl⟩
    rw [← h2]
    simp [execOp, ho, h1, Op.unary, Op.intBits, bits, IntKind.signed]
end
theorem fldF_len (s : ByteArray) : (yZ s).length = (s.data.toList.foldl cntS (0, true)).1 := by rw [yZ, cutF, List.length_map, cnt_all]
end Go.Proofs.YtfmafehogfikmaaGreatDoor

/- strings.Fields, walked, for texts of plain letters. -/
namespace Go.Proofs.YtfmafehogfikmaaGreatDoor
open Go Go.RowKit

def sF (s : ByteArray) : D := .val (.string s)
def emF : ByteArray := ⟨#[]⟩
theorem undA : Tryz.prog.underlying 128 = some (.array 256 5) := by kernel_rfl
theorem gl0 : (0, (List.range 256).map fun k => Value.int .u8 (if k = 32 ∨ (9 ≤ k ∧ k ≤ 13) then 1 else 0)) ∈ glL := List.mem_cons_self
structure FS2 (s : ByteArray) where
  i : Nat
  fs : Nat
  out : List ByteArray
  hi : fs ≤ i ∧ i ≤ s.size
  hf : fs < i ∨ i = s.size ∨ z0 (qJ s i) = false
  eq : out ++ cutF s (spP (if fs < i then some fs else none) i (s.data.toList.drop i)) = yZ s
theorem awp_cutx {σ : Type} {cx : Cx} {s : AS} {Q : Exit → AS → Prop} (IS : σ → AS) {c b : Code} (h1 : AWp cx c s (fun e s'' => e = .normal ∧ ∃ x : σ, Fits cx s'' (IS x))) (h2 : ∀ x, AWp cx b (IS x) Q) : AWp cx c s (qQ (fun s'' => AWp cx b s'' Q) Q) :=
  ks h1 fun e s'' h => by
    obtain ⟨rfl, x, h⟩ := h
    exact uc (ve h (h2 x))
theorem toNat_ne {p : Bool} (h : (!decide ((p.toNat : Int) = 0)) = true) : p = true := by cases p <;> simp at h ⊢
theorem toNat_eq {p : Bool} (h : (!decide ((p.toNat : Int) = 0)) = false) : p = false := by cases p <;> simp at h ⊢
def fill (n : Nat) (out : List ByteArray) : List ByteArray := out ++ List.replicate (n - out.length) emF
theorem fill_len {n : Nat} {out : List ByteArray} (h : out.length ≤ n) : (fill n out).length = n := by rw [fill, List.length_append, List.length_replicate]; omega
theorem fill_set {n : Nat} {out : List ByteArray} (h : out.length < n) (x : ByteArray) : (fill n out).set out.length x = fill n (out ++ [x]) := by
  obtain ⟨m, hm⟩ : ∃ m, n - out.length = m + 1 := ⟨n - out.length - 1, by omega⟩
  rw [fill, fill, hm, List.replicate_succ, List.set_append_right _ _ (Nat.le_refl _), Nat.sub_self, List.set_cons_zero, List.append_assoc, List.length_append, List.length_singleton, show n - (out.length + 1) = m by omega]
  rfl
set_option maxRecDepth 20000 in
set_option maxHeartbeats 2000000 in
theorem strFields_ok (s : ByteArray) (hs : s.size ≤ 1099511627776) (hpl : plainS s = true) : uI Tryz.prog 62 [.val (.string s)] (.sl 1 ((yZ s).map sF)) := by
  refine uP Tryz.func62 Tryz.ntmps62 rfl rfl rfl fun S w => ?_
  have hsz := xa s
  repeat (first | refine ue ?_ | refine uc ?_ | refine um ?_ | refine ud ?_ | refine uf ?_ | (refine ug ?_; first | refine uh tab_ok rfl rfl rfl rfl byE rfl ?_))
  refine uV (σ := {i : Nat // i ≤ s.size}) (fun _ => []) (fun x => [(0, .val (.string s)), (3, .val (.int .i64 ((s.data.toList.take x.1).foldl cntS (0, true)).1)), (4, .val (.int .i64 (((s.data.toList.take x.1).foldl cntS (0, true)).2.toNat : Nat))), (5, .pr smallV), (6, .val (.int .i64 x.1))]) (fun x => s.size - x.1) ⟨0, Nat.zero_le _⟩ ?_ ?_
  · rw [List.take_zero]
    refine u5 rfl ⟨Sub.refl _, Sub.refl _, Sub.refl _, ?_, Sub.refl _, trivial⟩
    rintro M β w imm v rfl
    exact ⟨0, by omega, rfl⟩
  rintro ⟨i, hi⟩
  dsimp only
  have hcl := cnt_le (s.data.toList.take i) (0, true)
  rw [List.length_take] at hcl
  obtain ⟨⟨n, was⟩, hnw⟩ : ∃ x, x = (s.data.toList.take i).foldl cntS (0, true) := ⟨_, rfl⟩
  rw [← hnw] at hcl ⊢
  dsimp only at hcl ⊢
  repeat (first | refine ue ?_ | refine uc ?_ | refine ud ?_ | refine uf ?_ | (refine ug ?_; first | refine uh tab_ok rfl rfl rfl rfl byE rfl ?_))
  refine uo rfl (fun hlt => ?_) (fun hge => ?_)
  · have hi' : i < s.size := by omega
    have hst := take_atA hi'
    have hb128 := plain_at hpl hi'
    obtain ⟨b, hb⟩ : ∃ b, s.data.toList.getD i 0 = b := ⟨_, rfl⟩
    rw [qJ, hb] at hst hb128
    have hbl := Bool.toNat_le (z0 b)
    have hwl := Bool.toNat_le was
    have hbw := Bool.toNat_le (was && !z0 b)
    repeat (first | refine ue ?_ | refine um ?_ | refine ud ?_ | refine uj ?_ | refine uf ?_ | (refine ug ?_; first | refine uh tab_ok rfl rfl rfl rfl byE rfl ?_))
    simp only [Int.toNat_natCast, hb]
    repeat (first | refine ue ?_ | refine uc ?_ | refine ud ?_ | refine uf ?_ | (refine ug ?_; first | refine uh tab_ok rfl rfl rfl rfl byE rfl ?_) | refine r_by (fun _ => qF (v := ascV b) rfl undA (tab_ok.get rfl) rfl gl0 rfl ⟨by omega, by omega⟩ (ascV_at b)) rfl rfl rfl rfl rfl ?_ | refine r_by (fun _ => astep_not64' rfl rfl (by omega)) rfl rfl rfl rfl rfl ?_ | refine r_by (fun _ => astep_and_lit rfl rfl rfl (and01 _ was (z0 b))) rfl rfl rfl rfl rfl ?_ | refine r_by (fun _ => astep_or_small rfl rfl rfl hb128) rfl rfl rfl rfl rfl ?_)
    have hc2 := cnt_snoc (s.data.toList.take i) b (0, true)
    rw [← hnw, ← hst] at hc2
    refine ⟨⟨i + 1, by omega⟩, by dsimp only; omega, ?_⟩
    dsimp only
    rw [hc2, cntS]
    exact u5 rfl ⟨Sub.refl _, Sub.of_eq (by cases was <;> cases z0 b <;> rfl), Sub.refl _, Sub.refl _, Sub.refl _, trivial⟩
  · have : i = s.size := by omega
    subst this
    rw [List.take_of_length_le (by omega)] at hnw
    have hn : n = (yZ s).length := by rw [fldF_len, ← hnw]
    clear hnw
    have hnl : n ≤ s.size := by omega
    repeat (first | refine ue ?_ | refine ud ?_ | refine uC ?_)
    refine uh tab_ok rfl rfl rfl rfl trivial rfl ?_
    refine r_by (fun _ => astep_geq_small rfl rfl rfl) rfl rfl rfl rfl rfl ?_
    repeat (first | refine ue ?_ | refine uc ?_ | refine ud ?_ | refine uj ?_ | refine uf ?_ | (refine ug ?_; first | refine uh tab_ok rfl rfl rfl rfl byE rfl ?_) | refine ur rfl ?_)
    refine r_by2 (astep_make_words (n := n) (v := .string ⟨#[]⟩) tab_ok rfl rfl rfl rfl rfl rfl rfl (by show 16 * _ ≤ _; omega) (by omega)) rfl rfl rfl rfl rfl ?_
    repeat (first | refine uc ?_ | refine uf ?_ | (refine ug ?_; first | refine uh tab_ok rfl rfl rfl rfl byE rfl ?_))
    refine ue ?_
    repeat (first | refine uc ?_ | refine ud ?_ | refine uf ?_ | (refine ug ?_; first | refine uh tab_ok rfl rfl rfl rfl byE rfl ?_))
    refine ue ?_
    repeat (first | refine uc ?_ | refine ud ?_ | refine uf ?_ | (refine ug ?_; first | refine uh tab_ok rfl rfl rfl rfl byE rfl ?_))
    refine ue ?_
    repeat (first | refine uc ?_ | refine ud ?_ | refine uf ?_ | (refine ug ?_; first | refine uh tab_ok rfl rfl rfl rfl byE rfl ?_))
    refine ue ?_
    have hfill0 : (fill n []).map sF = List.replicate n (D.val (.string ⟨#[]⟩)) := by rw [fill, List.nil_append, List.length_nil, Nat.sub_zero, List.map_replicate]; rfl
    refine awp_cutx (σ := {i : Nat // i ≤ s.size ∧ cutF s (spP none i (s.data.toList.drop i)) = yZ s ∧ (i = s.size ∨ z0 (qJ s i) = false)}) (fun x => ⟨[.row 0 9 1 ((fill n []).map sF)], [(0, .val (.string s)), (9, .row 0 0), (10, .val (.int .i64 0)), (12, .val (.int .i64 x.1))]⟩) ?_ ?_
    · repeat (first | refine um ?_)
      refine uV (σ := {i : Nat // i ≤ s.size ∧ cutF s (spP none i (s.data.toList.drop i)) = yZ s}) (fun _ => [.row 0 9 1 ((fill n []).map sF)]) (fun x => [(0, .val (.string s)), (9, .row 0 0), (10, .val (.int .i64 0)), (12, .val (.int .i64 x.1))]) (fun x => s.size - x.1) ⟨0, Nat.zero_le _, rfl⟩ (u5 (by rw [hfill0]; rfl) byK) ?_
      rintro ⟨i, hi, heq⟩
      dsimp only
      rcases Nat.lt_or_ge i s.size with hlt | hge
      · have hdr := drop_atA hlt
        have hb128 := plain_at hpl hlt
        obtain ⟨b, hb⟩ : ∃ b, s.data.toList.getD i 0 = b := ⟨_, rfl⟩
        have hbA : qJ s i = b := hb
        rw [hbA] at hdr hb128
        have hbl := Bool.toNat_le (z0 b)
        repeat (first | refine ue ?_ | refine ud ?_ | (refine ug ?_; first | refine uh tab_ok rfl rfl rfl rfl byE rfl ?_) | refine r_g rfl rfl (congrArg (fun b => AV.val (.bool b)) (decide_eq_true (by omega))) ?_)
        simp only [Int.toNat_natCast, hb]
        repeat (first | refine uc ?_ | refine uf ?_ | (refine ug ?_; first | refine uh tab_ok rfl rfl rfl rfl byE rfl ?_) | refine r_by (fun _ => qF (v := ascV b) rfl undA (tab_ok.get rfl) rfl gl0 rfl ⟨by omega, by omega⟩ (ascV_at b)) rfl rfl rfl rfl rfl ?_ | refine r_g rfl rfl (congrArg (fun b => AV.val (.bool b)) (decide_eq_true (by omega))) ?_ | refine uN rfl rfl (congrArg (fun b => AV.val (.bool b)) (decide_eq_true (by omega))) rfl rfl rfl rfl ?_)
        refine uA rfl (fun hc => ?_) (fun hc => ?_)
        · have hab := toNat_ne hc
          rw [hdr, spP, hab, if_pos rfl] at heq
          repeat (first | refine uc ?_ | refine um ?_ | refine ud ?_ | refine ut ?_ | refine uj ?_ | refine uf ?_ | (refine ug ?_; first | refine uh tab_ok rfl rfl rfl rfl byE rfl ?_))
          exact ⟨⟨i + 1, by omega, heq⟩, by dsimp only; omega, u5 rfl byK⟩
        · have hab := toNat_eq hc
          repeat (first | refine uC ?_ | refine vg ?_ | refine vi rfl ?_)
          exact ⟨rfl, ⟨i, hi, heq, .inr (by rw [hbA]; exact hab)⟩, u5 rfl byK⟩
      · have : i = s.size := by omega
        repeat (first | refine ue ?_ | refine uc ?_ | refine ud ?_ | refine uC ?_ | refine vg ?_ | refine vi rfl ?_ | refine uf ?_ | (refine ug ?_; first | refine uh tab_ok rfl rfl rfl rfl byE rfl ?_) | refine ur rfl ?_ | refine uD rfl rfl (congrArg (fun b => AV.val (.bool b)) (decide_eq_false (by omega))) rfl rfl rfl rfl ?_ | refine va rfl rfl (congrArg (fun b => AV.val (.bool b)) (decide_eq_false (by omega))) rfl rfl rfl ?_)
        exact ⟨rfl, ⟨i, hi, heq, .inl this⟩, u5 rfl byK⟩
    rintro ⟨i, hi, heq, hne⟩
    dsimp only
    repeat (first | refine ue ?_ | refine um ?_ | refine ud ?_ | refine uf ?_ | (refine ug ?_; first | refine uh tab_ok rfl rfl rfl rfl byE rfl ?_))
    refine uV (σ := FS2 s) (fun x => [.row 0 9 1 ((fill n x.out).map sF)]) (fun x => [(0, .val (.string s)), (9, .row 0 0), (10, .val (.int .i64 x.out.length)), (11, .val (.int .i64 x.fs)), (12, .val (.int .i64 x.i))]) (fun x => s.size - x.i) ⟨i, i, [], ⟨Nat.le_refl _, hi⟩, .inr hne, by rw [if_neg (Nat.lt_irrefl _)]; exact heq⟩ (u5 rfl byK) ?_
    clear heq hne
    rintro ⟨i, fs, out, ⟨hfi, hi⟩, hf, heq⟩
    dsimp only
    have hol : out.length + (spP (if fs < i then some fs else none) i (s.data.toList.drop i)).length = n := by
      have := congrArg List.length heq
      rw [List.length_append, cutF, List.length_map] at this
      omega
    have hfl := fill_len (n := n) (out := out) (by omega)
    have hfm : ((fill n out).map sF).length = n := by rw [List.length_map, hfl]
    repeat (first | refine ue ?_ | refine uc ?_ | refine ud ?_ | refine uf ?_ | (refine ug ?_; first | refine uh tab_ok rfl rfl rfl rfl byE rfl ?_))
    refine uo rfl (fun hlt => ?_) (fun hge => ?_)
    · have hlt : i < s.size := by omega
      have hdr := drop_atA hlt
      have hb128 := plain_at hpl hlt
      obtain ⟨b, hb⟩ : ∃ b, s.data.toList.getD i 0 = b := ⟨_, rfl⟩
      have hbA : qJ s i = b := hb
      rw [hbA] at hdr hb128 hf
      rw [hdr] at heq hol
      have hbl := Bool.toNat_le (z0 b)
      repeat (first | refine ue ?_ | refine uc ?_ | refine um ?_ | refine ud ?_ | refine uj ?_ | (refine ug ?_; first | refine uh tab_ok rfl rfl rfl rfl byE rfl ?_))
      simp only [Int.toNat_natCast, hb]
      repeat (first | refine uc ?_ | refine uf ?_ | (refine ug ?_; first | refine uh tab_ok rfl rfl rfl rfl byE rfl ?_) | refine r_by (fun _ => qF (v := ascV b) rfl undA (tab_ok.get rfl) rfl gl0 rfl ⟨by omega, by omega⟩ (ascV_at b)) rfl rfl rfl rfl rfl ?_)
      refine uA rfl (fun hc => ?_) (fun hc => ?_)
      · have hab : z0 b = false := by cases h : z0 b <;> simp [h] at hc ⊢
        repeat (first | refine ue ?_ | refine uc ?_ | refine ud ?_ | refine uC ?_ | refine vg ?_ | refine vi rfl ?_ | refine uf ?_ | (refine ug ?_; first | refine uh tab_ok rfl rfl rfl rfl byE rfl ?_))
        refine ⟨⟨i + 1, fs, out, ⟨by omega, by omega⟩, .inl (by omega), ?_⟩, by dsimp only; omega, u5 rfl byK⟩
        rw [← heq, if_pos (show fs < i + 1 by omega)]
        split
        · rw [spP, hab]; rfl
        · have : fs = i := by omega
          subst this
          rw [spP, hab]; rfl
      · have hab : z0 b = true := by cases h : z0 b <;> simp [h] at hc ⊢
        have hfs : fs < i := by
          rcases hf with h | h | h
          · exact h
          · omega
          · rw [hab] at h; cases h
        rw [if_pos hfs, spP, hab, if_pos rfl] at heq hol
        rw [List.length_cons] at hol
        have hset := fill_set (n := n) (out := out) (by omega) (s.extract fs i)
        have hle : (out ++ [s.extract fs i]).length = out.length + 1 := by rw [List.length_append]; rfl
        rw [cutF, List.map_cons, List.append_cons] at heq
        dsimp only at heq
        repeat (first | refine ue ?_ | refine ud ?_ | refine uj ?_ | (refine ug ?_; first | refine uh tab_ok rfl rfl rfl rfl byE rfl ?_ | refine qX tab_ok rfl rfl rfl rfl rfl rfl rfl rfl (by first | (simp; done) | exact ⟨by simp, by simp; omega, by simp; omega⟩ | (simp; omega)) rfl ?_ | refine w5 tab_ok rfl rfl rfl rfl rfl rfl rfl rfl (by first | exact ⟨by omega, by omega⟩ | (simp; omega)) rfl ?_))
        refine r_ste tab_ok (s.extract fs i) rfl rfl rfl rfl rfl (by omega) rfl rfl rfl rfl rfl rfl ?_
        simp only [Int.toNat_natCast, List.set_cons_zero]
        rw [hset]
        repeat (first | refine ue ?_ | refine um ?_ | refine ud ?_ | refine uf ?_ | (refine ug ?_; first | refine uh tab_ok rfl rfl rfl rfl byE rfl ?_))
        obtain ⟨out2, ho2⟩ : ∃ out2, out2 = out ++ [s.extract fs i] := ⟨_, rfl⟩
        rw [← ho2] at hle heq ⊢
        refine uV (σ := {j : Nat // i < j ∧ j ≤ s.size ∧ out2 ++ cutF s (spP none j (s.data.toList.drop j)) = yZ s}) (fun _ => [.row 0 9 1 ((fill n out2).map sF)]) (fun x => [(0, .val (.string s)), (9, .row 0 0), (10, .val (.int .i64 out2.length)), (12, .val (.int .i64 x.1))]) (fun x => s.size - x.1) ⟨i + 1, Nat.lt_succ_self _, by omega, heq⟩ (u5 rfl ⟨Sub.refl _, Sub.refl _, Sub.of_eq (by rw [hle]; rfl), Sub.refl _, trivial⟩) ?_
        clear heq hol hset hfl hfm hdr hb hbA
        rintro ⟨j, hij, hj, heq⟩
        dsimp only
        rcases Nat.lt_or_ge j s.size with hlt2 | hge2
        · have hdr := drop_atA hlt2
          have hb128 := plain_at hpl hlt2
          obtain ⟨b, hb⟩ : ∃ b, s.data.toList.getD j 0 = b := ⟨_, rfl⟩
          have hbA : qJ s j = b := hb
          rw [hbA] at hdr hb128
          have hbl := Bool.toNat_le (z0 b)
          repeat (first | refine ue ?_ | refine ud ?_ | (refine ug ?_; first | refine uh tab_ok rfl rfl rfl rfl byE rfl ?_) | refine r_g rfl rfl (congrArg (fun b => AV.val (.bool b)) (decide_eq_true (by omega))) ?_)
          simp only [Int.toNat_natCast, hb]
          repeat (first | refine uc ?_ | refine uf ?_ | (refine ug ?_; first | refine uh tab_ok rfl rfl rfl rfl byE rfl ?_) | refine r_by (fun _ => qF (v := ascV b) rfl undA (tab_ok.get rfl) rfl gl0 rfl ⟨by omega, by omega⟩ (ascV_at b)) rfl rfl rfl rfl rfl ?_ | refine r_g rfl rfl (congrArg (fun b => AV.val (.bool b)) (decide_eq_true (by omega))) ?_ | refine uN rfl rfl (congrArg (fun b => AV.val (.bool b)) (decide_eq_true (by omega))) rfl rfl rfl rfl ?_)
          refine uA rfl (fun hc => ?_) (fun hc => ?_)
          · have hab := toNat_ne hc
            rw [hdr, spP, hab, if_pos rfl] at heq
            repeat (first | refine uc ?_ | refine um ?_ | refine ud ?_ | refine ut ?_ | refine uj ?_ | refine uf ?_ | (refine ug ?_; first | refine uh tab_ok rfl rfl rfl rfl byE rfl ?_))
            exact ⟨⟨j + 1, by omega, by omega, heq⟩, by dsimp only; omega, u5 rfl byK⟩
          · have hab := toNat_eq hc
            repeat (first | refine uc ?_ | refine ud ?_ | refine uC ?_ | refine ut ?_ | refine uf ?_ | (refine ug ?_; first | refine uh tab_ok rfl rfl rfl rfl byE rfl ?_))
            exact ⟨⟨j, j, out2, ⟨Nat.le_refl _, hj⟩, .inr (.inr (by rw [hbA]; exact hab)), by rw [if_neg (Nat.lt_irrefl _)]; exact heq⟩, by dsimp only; omega, u5 rfl byK⟩
        · have hje : j = s.size := by omega
          repeat (first | refine ue ?_ | refine uc ?_ | refine ud ?_ | refine uC ?_ | refine ut ?_ | refine uf ?_ | (refine ug ?_; first | refine uh tab_ok rfl rfl rfl rfl byE rfl ?_) | refine ur rfl ?_ | refine uD rfl rfl (congrArg (fun b => AV.val (.bool b)) (decide_eq_false (by omega))) rfl rfl rfl rfl ?_ | refine va rfl rfl (congrArg (fun b => AV.val (.bool b)) (decide_eq_false (by omega))) rfl rfl rfl ?_)
          exact ⟨⟨j, j, out2, ⟨Nat.le_refl _, hj⟩, .inr (.inl hje), by rw [if_neg (Nat.lt_irrefl _)]; exact heq⟩, by dsimp only; omega, u5 rfl byK⟩
    · have hie : i = s.size := by omega
      subst hie
      rw [List.drop_of_length_le (by omega)] at heq hol
      repeat (first | refine ue ?_ | refine uc ?_ | refine ud ?_ | refine uC ?_ | refine uf ?_ | (refine ug ?_; first | refine uh tab_ok rfl rfl rfl rfl byE rfl ?_))
      refine uo rfl (fun hfl2 => ?_) (fun hfl2 => ?_)
      · have hfs : fs < s.size := by omega
        rw [if_pos hfs, spP] at heq hol
        rw [List.length_singleton] at hol
        have hset := fill_set (n := n) (out := out) (by omega) (s.extract fs s.size)
        have heq2 : out ++ [s.extract fs s.size] = yZ s := heq
        rw [heq2] at hset
        have hall : fill n (yZ s) = yZ s := by rw [fill, hn, Nat.sub_self, List.replicate_zero, List.append_nil]
        rw [hall] at hset
        repeat (first | refine ud ?_ | (refine ug ?_; first | refine uh tab_ok rfl rfl rfl rfl byE rfl ?_ | refine qX tab_ok rfl rfl rfl rfl rfl rfl rfl rfl (by first | (simp; done) | exact ⟨by simp, by simp; omega, by simp; omega⟩ | (simp; omega)) rfl ?_ | refine w5 tab_ok rfl rfl rfl rfl rfl rfl rfl rfl (by first | exact ⟨by omega, by omega⟩ | (simp; omega)) rfl ?_))
        refine r_ste tab_ok (s.extract fs s.size) rfl rfl rfl rfl rfl (by omega) rfl rfl rfl rfl rfl rfl ?_
        simp only [Int.toNat_natCast, List.set_cons_zero]
        rw [hset]
        repeat (first | refine ue ?_ | refine uc ?_ | refine ud ?_ | refine uk ?_ | refine uf ?_ | (refine ug ?_; first | refine uh tab_ok rfl rfl rfl rfl byE rfl ?_) | refine wH byO rfl rfl rfl ?_)
        all_goals exact Sub.refl _
      · rw [if_neg (by omega), spP] at heq
        have heq2 : out = yZ s := by rw [← heq, cutF, List.map_nil, List.append_nil]
        have hall : fill n (yZ s) = yZ s := by rw [fill, hn, Nat.sub_self, List.replicate_zero, List.append_nil]
        rw [heq2, hall]
        repeat (first | refine ue ?_ | refine uc ?_ | refine ud ?_ | refine uk ?_ | refine uj ?_ | refine uf ?_ | (refine ug ?_; first | refine uh tab_ok rfl rfl rfl rfl byE rfl ?_) | refine wH byO rfl rfl rfl ?_)
        all_goals exact Sub.refl _
end Go.Proofs.YtfmafehogfikmaaGreatDoor

/- strings.Builder; small letters; words among others. -/
namespace Go.Proofs.YtfmafehogfikmaaGreatDoor
open Go Go.RowKit
set_option maxRecDepth 20000

theorem underB : Tryz.prog.underlying 101 = some (.pointer 103) := by kernel_rfl
theorem underU : Tryz.prog.underlying 144 = some .unsafePointer := by kernel_rfl
theorem underP : Tryz.prog.underlying 130 = some (.pointer 5) := by kernel_rfl
theorem cells5 : Tryz.prog.cellsOf 5 = 1 := by kernel_rfl
theorem liesB : liesAt Tryz.prog Tryz.prog.depth 103 (2 / Tryz.prog.cellsOf 103) 0 103 1 = true := by kernel_rfl
def bM (v : Nat) (l : List UInt8) : List AB := [.box 103 [yj, .row 1 v], .row v 5 1 (l.map bD)]
theorem check_nil (v : Nat) (l : List UInt8) : u3 Tryz.prog 97 [.box 103 [.val (.pointer none), .row 1 v], .row v 5 1 (l.map bD)] [.ptr 0 0] [.box 103 [.ptr 0 0, .row 1 v], .row v 5 1 (l.map bD)] (.tup []) := by
  refine wK Tryz.func97 Tryz.ntmps97 rfl rfl rfl fun S w β => ?_
  repeat (first | refine ue ?_ | refine ud ?_ | (refine ug ?_; first | refine uh tab_ok rfl rfl rfl rfl byE rfl ?_ | refine uJ tab_ok rfl rfl rfl rfl rfl ?_ | refine uB rfl rfl rfl rfl rfl rfl rfl ?_))
  refine r_by (fun _ => astep_eqnil_nil underB rfl rfl rfl) rfl rfl rfl rfl rfl ?_
  repeat (first | refine uc ?_ | refine ud ?_ | refine uf ?_ | (refine ug ?_; first | refine uh tab_ok rfl rfl rfl rfl byE rfl ?_) | refine uq rfl ?_)
  refine r_by1 (astep_tounsafe tab_ok underB underU rfl rfl rfl rfl rfl) rfl rfl rfl rfl rfl ?_
  refine r_by (fun _ => astep_noescape Tryz.func109 rfl rfl rfl rfl rfl) rfl rfl rfl rfl rfl ?_
  refine r_by1 (astep_fromunsafe tab_ok underU underB rfl rfl rfl rfl liesB) rfl rfl rfl rfl rfl ?_
  repeat (first | refine uf ?_ | (refine ug ?_; first | refine uh tab_ok rfl rfl rfl rfl byE rfl ?_ | refine uM tab_ok rfl rfl rfl rfl ?_ | refine uB rfl rfl rfl rfl rfl rfl rfl ?_) | exact retM0 byO rfl rfl rfl)
theorem check_ptr (v : Nat) (l : List UInt8) : u3 Tryz.prog 97 [.box 103 [.ptr 0 0, .row 1 v], .row v 5 1 (l.map bD)] [.ptr 0 0] [.box 103 [.ptr 0 0, .row 1 v], .row v 5 1 (l.map bD)] (.tup []) := by
  refine wK Tryz.func97 Tryz.ntmps97 rfl rfl rfl fun S w β => ?_
  repeat (first | refine ue ?_ | refine ud ?_ | (refine ug ?_; first | refine uh tab_ok rfl rfl rfl rfl byE rfl ?_ | refine uJ tab_ok rfl rfl rfl rfl rfl ?_ | refine uB rfl rfl rfl rfl rfl rfl rfl ?_))
  refine r_by (fun _ => astep_eqnil_ptr underB rfl rfl rfl) rfl rfl rfl rfl rfl ?_
  repeat (first | refine ue ?_ | refine uc ?_ | refine ud ?_ | refine uf ?_ | (refine ug ?_; first | refine uh tab_ok rfl rfl rfl rfl byE rfl ?_ | refine uJ tab_ok rfl rfl rfl rfl rfl ?_ | refine uB rfl rfl rfl rfl rfl rfl rfl ?_) | refine ur rfl ?_)
  refine r_by (fun _ => astep_neqself tab_ok underB rfl rfl rfl rfl) rfl rfl rfl rfl rfl ?_
  repeat (first | refine uc ?_ | refine uj ?_ | refine uf ?_ | exact retM0 byO rfl rfl rfl | refine ur rfl ?_)
theorem check_ok (v : Nat) (l : List UInt8) : u3 Tryz.prog 97 [.box 103 [yj, .row 1 v], .row v 5 1 (l.map bD)] [.ptr 0 0] [.box 103 [yj, .row 1 v], .row v 5 1 (l.map bD)] (.tup []) := mcall_self (check_nil v l) (check_ptr v l)

/-- (*strings.Builder).WriteByte. -/
theorem write_ok (l : List UInt8) (c : UInt8) (hl : l.length ≤ 70368744177664) : u3 Tryz.prog 63 [.box 103 [yj, .row 1 0], .row 0 5 1 (l.map bD)] [.ptr 0 0, .val (.int .u8 c.toNat)] [.box 103 [yj, .row 1 2], .row 2 5 1 ((l ++ [c]).map bD)] (.val .nilIface) := by
  rw [List.map_append]
  refine wK Tryz.func63 Tryz.ntmps63 rfl rfl rfl fun S w β => ?_
  have hlm : (l.map bD).length = l.length := List.length_map _
  repeat (first | refine ue ?_ | refine ud ?_ | refine uf ?_ | (refine ug ?_; first | refine uh tab_ok rfl rfl rfl rfl byE rfl ?_))
  refine vr [0, 1] (check_ok 0 l) call97 rfl rfl ⟨rfl, rfl, trivial⟩ (by decide) ⟨Sub.refl _, trivial⟩ rfl rfl rfl rfl rfl rfl rfl ?_
  repeat (first | refine ue ?_ | refine uc ?_ | refine ud ?_ | refine uk ?_ | refine uf ?_ | (refine ug ?_; first | refine uh tab_ok rfl rfl rfl rfl byE rfl ?_ | refine uJ tab_ok rfl rfl rfl rfl rfl ?_ | refine uM tab_ok rfl rfl rfl rfl ?_ | refine u9 tab_ok rfl rfl rfl rfl rfl rfl rfl rfl rfl ?_ | refine uB rfl rfl rfl rfl rfl rfl rfl ?_ | refine u6 tab_ok rfl rfl rfl rfl rfl rfl rfl rfl rfl (by first | omega | (simp; omega)) rfl ?_) | refine wA byO rfl rfl rfl rfl rfl ?_)
  exact Sub.refl _

/-- (*strings.Builder).String. -/
theorem string_ok (v : Nat) (l : List UInt8) (hl : l.length ≤ 70368744177664) : u3 Tryz.prog 64 [.box 103 [yj, .row 1 v], .row v 5 1 (l.map bD)] [.ptr 0 0] [.box 103 [yj, .any], .gone] (.val (.string ⟨l.toArray⟩)) := by
  rcases List.eq_nil_or_concat l with rfl | ⟨l', c, rfl⟩
  · refine vu Tryz.func64 Tryz.ntmps64 rfl rfl rfl fun S w β => ?_
    repeat (first | refine ue ?_ | refine ud ?_ | refine wN vM (by kernel_rfl) ?_ | refine uf ?_ | (refine ug ?_; first | refine uh tab_ok rfl rfl rfl rfl byE rfl ?_ | refine uJ tab_ok rfl rfl rfl rfl rfl ?_ | refine uB rfl rfl rfl rfl rfl rfl rfl ?_))
    refine r_usd0 underP rfl rfl rfl rfl rfl rfl rfl ?_
    repeat (first | (refine ug ?_; first | refine uh tab_ok rfl rfl rfl rfl byE rfl ?_ | refine uJ tab_ok rfl rfl rfl rfl rfl ?_ | refine uB rfl rfl rfl rfl rfl rfl rfl ?_))
    refine r_by1 (zY tab_ok rfl rfl rfl rfl) rfl rfl rfl rfl rfl ?_
    refine r_ustr0 rfl rfl rfl rfl rfl rfl rfl rfl ?_
    repeat (first | refine uc ?_ | refine uk ?_ | refine vG ?_ | (refine ug ?_; first | refine uh tab_ok rfl rfl rfl rfl byE rfl ?_))
    exact vj [.box 103 [yj, .any], .gone] [(2, .val (.string ⟨#[]⟩))] (ul byV byV ⟨trivial, trivial, trivial⟩) byO rfl rfl rfl rfl rfl (Sub.refl _)
  · refine vu Tryz.func64 Tryz.ntmps64 rfl rfl rfl fun S w β => ?_
    repeat (first | refine ue ?_ | refine ud ?_ | refine uf ?_ | (refine ug ?_; first | refine uh tab_ok rfl rfl rfl rfl byE rfl ?_))
    refine a_draw vM [0,0,0,1,1,0,0,0,1,1,2,0] (by kernel_rfl) ?_
    repeat (first | (refine ug ?_; first | refine uh tab_ok rfl rfl rfl rfl byE rfl ?_ | refine uJ tab_ok rfl rfl rfl rfl rfl ?_ | refine uB rfl rfl rfl rfl rfl rfl rfl ?_))
    refine r_usd (by simp) rfl rfl rfl rfl rfl rfl rfl ?_
    repeat (first | (refine ug ?_; first | refine uh tab_ok rfl rfl rfl rfl byE rfl ?_ | refine uJ tab_ok rfl rfl rfl rfl rfl ?_ | refine uB rfl rfl rfl rfl rfl rfl rfl ?_))
    refine r_by1 (zY tab_ok rfl rfl rfl rfl) rfl rfl rfl rfl rfl ?_
    refine r_ustr (by simp) underP cells5 rfl rfl rfl rfl rfl rfl rfl rfl ?_
    repeat (first | refine uc ?_ | refine uk ?_ | refine vG ?_ | (refine ug ?_; first | refine uh tab_ok rfl rfl rfl rfl byE rfl ?_))
    exact vj [.box 103 [yj, .any], .gone] [(2, .val (.string ⟨(l'.concat c).toArray⟩))] (ul byV byV ⟨trivial, trivial, trivial⟩) byO rfl rfl rfl rfl rfl (Sub.refl _)
theorem yE (s : ByteArray) (hs : s.size ≤ 70368744177663) : uI Tryz.prog 30 [.val (.string s)] (.val (.string (vk s))) := by
  refine uP Tryz.func30 Tryz.ntmps30 rfl rfl rfl fun S w => ?_
  have hsz := xa s
  repeat (first | refine ue ?_ | refine uc ?_ | refine um ?_ | refine ud ?_ | refine uf ?_ | (refine ug ?_; first | refine uh tab_ok rfl rfl rfl rfl byE rfl ?_ | refine vp tab_ok rfl rfl rfl rfl rfl ?_))
  refine uV (σ := {i : Nat // i ≤ s.size}) (fun x => [.box 103 [.alt (.val (.pointer none)) (.ptr 0 0), .row 1 0], .row 0 5 1 ((lowL (s.data.toList.take x.1)).map bD)]) (fun x => [(0, .val (.string s)), (3, .ptr 0 0), (7, .val (.int .i64 s.size)), (8, .val (.int .i64 x.1))]) (fun x => s.size - x.1) ⟨0, by omega⟩ (uy byV byV) ?_
  rintro ⟨i, hi⟩
  dsimp only
  have hll : (lowL (s.data.toList.take i)).length ≤ s.size := by simp [lowL]; omega
  repeat (first | refine ue ?_ | refine ud ?_ | refine uf ?_ | (refine ug ?_; first | refine uh tab_ok rfl rfl rfl rfl byE rfl ?_))
  refine uo rfl (fun hlt => ?_) (fun hge => ?_)
  · have hi' : i < s.data.toList.length := by omega
    repeat (first | refine ue ?_ | refine uc ?_ | refine um ?_ | refine ud ?_ | refine uj ?_ | refine uf ?_ | (refine ug ?_; first | refine uh tab_ok rfl rfl rfl rfl byE rfl ?_ | refine ux tab_ok rfl rfl rfl rfl rfl rfl byC (by first | exact fun _ => trivial | (intro h; simp at h; omega)) rfl ?_ | refine vm rfl rfl rfl rfl rfl rfl rfl rfl ?_))
    have hb : (s.data.toList.getD ((i : Int)).toNat 0) = s.data.toList[i] := by rw [Int.toNat_natCast, getD_byte hi']
    rw [hb]
    have htk : lowL (s.data.toList.take (i + 1)) = lowL (s.data.toList.take i) ++ [lowB s.data.toList[i]] := by
      rw [lowL, List.take_add_one, List.getElem?_eq_getElem hi']; simp [lowL]
    generalize s.data.toList[i] = b at htk ⊢
    refine uA rfl (fun h => ?_) (fun h => ?_)
    · have h' : 65 ≤ b.toNat ∧ b.toNat ≤ 90 := by simp at h; omega
      repeat (first | refine uc ?_ | refine ud ?_ | refine uf ?_ | (refine ug ?_; first | refine uh tab_ok rfl rfl rfl rfl byE rfl ?_))
      rw [← lowB_up h']
      refine vr [0, 1] (write_ok _ (lowB b) (by omega)) call63 rfl rfl ⟨rfl, rfl, trivial⟩ (by decide) ⟨Sub.refl _, Sub.refl _, trivial⟩ rfl rfl rfl rfl rfl rfl rfl ?_
      repeat (first | refine uc ?_ | refine ud ?_ | refine uf ?_ | (refine ug ?_; first | refine uh tab_ok rfl rfl rfl rfl byE rfl ?_))
      refine ⟨⟨i + 1, by omega⟩, by dsimp only; omega, ?_⟩
      dsimp only
      rw [htk]
      exact uy byV byV
    · have h' : ¬ (65 ≤ b.toNat ∧ b.toNat ≤ 90) := by simp at h; omega
      repeat (first | refine uc ?_ | refine ud ?_ | refine uj ?_ | (refine ug ?_; first | refine uh tab_ok rfl rfl rfl rfl byE rfl ?_))
      refine vr [0, 1] (write_ok _ b (by omega)) call63 rfl rfl ⟨rfl, rfl, trivial⟩ (by decide) ⟨Sub.refl _, Sub.refl _, trivial⟩ rfl rfl rfl rfl rfl rfl rfl ?_
      repeat (first | refine uc ?_ | refine ud ?_ | refine uf ?_ | (refine ug ?_; first | refine uh tab_ok rfl rfl rfl rfl byE rfl ?_))
      rw [lowB_no h'] at htk
      refine ⟨⟨i + 1, by omega⟩, by dsimp only; omega, ?_⟩
      dsimp only
      rw [htk]
      exact uy byV byV
  · have : i = s.size := by omega
    subst this
    repeat (first | refine ue ?_ | refine ud ?_ | refine uC ?_)
    refine vr [0, 1] (string_ok 0 _ (by omega)) call64 rfl rfl ⟨rfl, rfl, trivial⟩ (by decide) ⟨Sub.refl _, trivial⟩ rfl rfl rfl rfl rfl rfl rfl ?_
    repeat (first | refine uc ?_ | refine uk ?_ | refine uf ?_ | (refine ug ?_; first | refine uh tab_ok rfl rfl rfl rfl byE rfl ?_) | refine vB byO rfl rfl rfl ?_)
    exact Sub.of_eq (by rw [List.take_of_length_le (by omega)]; rfl)
theorem z8 : ∀ l : List AV, Subs l l
  | [] => trivial
  | x :: l => ⟨Sub.refl x, z8 l⟩
/-- slices.IndexFunc: the first place, or -1. -/
def zE {α : Type} (p : α → Bool) (l : List α) : Int := if l.findIdx p < l.length then l.findIdx p else -1
theorem findR_any {α : Type} (p : α → Bool) (l : List α) : decide (0 ≤ zE p l) = l.any p := by
  rw [zE]
  rw [Bool.eq_iff_iff, decide_eq_true_eq, List.any_eq_true, ← List.findIdx_lt_length]
  split <;> simp_all
def idxF (l : List ByteArray) (w : ByteArray) : Int := if l.findIdx (fun x => decide (w = x)) < l.length then l.findIdx (fun x => decide (w = x)) else -1
theorem index_ok (l : List ByteArray) (w : ByteArray) (hl : l.length ≤ 4611686018427387904) : uI Tryz.prog 94 [.sl 1 (l.map sF), .val (.string w)] (.val (.int .i64 (idxF l w))) := by
  refine uP Tryz.func94 Tryz.ntmps94 rfl rfl rfl fun S w0 => ?_
  repeat (first | refine ue ?_ | refine uc ?_ | refine um ?_ | refine ud ?_ | refine uf ?_ | (refine ug ?_; first | refine uG tab_ok rfl rfl rfl rfl rfl rfl rfl ?_ | refine uh tab_ok rfl rfl rfl rfl byE rfl ?_))
  refine uV (σ := {i : Nat // i ≤ l.findIdx (fun x => decide (w = x))}) (fun _ => []) (fun x => [(0, .sl 1 (l.map sF)), (1, .val (.string w)), (7, .val (.int .i64 l.length)), (8, .val (.int .i64 x.1))]) (fun x => l.length - x.1) ⟨0, Nat.zero_le _⟩
    (u5 rfl ⟨Sub.refl _, Sub.refl _, Sub.refl _, Sub.refl _, trivial⟩) ?_
  rintro ⟨i, hi⟩
  dsimp only
  have hle := List.findIdx_le_length (p := fun x => decide (w = x)) (xs := l)
  repeat (first | refine ue ?_ | refine ud ?_ | refine uf ?_ | (refine ug ?_; first | refine uh tab_ok rfl rfl rfl rfl byE rfl ?_))
  refine uo rfl (fun hlt => ?_) (fun hge => ?_)
  · have hi' : i < l.length := by omega
    repeat (first | refine ue ?_ | refine uc ?_ | refine um ?_ | refine ud ?_ | refine uj ?_ | refine uf ?_ | (refine ug ?_; first | refine uh tab_ok rfl rfl rfl rfl byE rfl ?_ | refine vf tab_ok rfl rfl rfl rfl rfl rfl rfl (by first | exact ⟨by omega, by omega⟩ | (simp; omega)) rfl rfl ?_))
    simp only [Int.toNat_natCast]
    refine uo rfl (fun hb => ?_) (fun hb => ?_)
    · repeat (first | refine ue ?_ | refine uc ?_ | refine ud ?_ | refine uk ?_ | refine un ?_ | refine uu ?_ | refine uf ?_ | (refine ug ?_; first | refine uh tab_ok rfl rfl rfl rfl byE rfl ?_) | refine vB byO rfl rfl rfl ?_)
      have : l.findIdx (fun x => decide (w = x)) = i := by
        rcases Nat.lt_or_eq_of_le hi with h | h
        · have := List.not_of_lt_findIdx h
          simp_all
        · exact h.symm
      exact Sub.of_eq (by rw [idxF, if_pos (by omega), this])
    · have : l.findIdx (fun x => decide (w = x)) ≠ i := fun h => by
        have := List.findIdx_getElem (p := fun x => decide (w = x)) (xs := l) (w := by omega)
        simp only [h] at this
        simp_all
      repeat (first | refine uc ?_ | refine ud ?_ | refine uj ?_ | refine uf ?_ | (refine ug ?_; first | refine uh tab_ok rfl rfl rfl rfl byE rfl ?_))
      exact ⟨⟨i + 1, by omega⟩, by dsimp only; omega, u5 rfl ⟨Sub.refl _, Sub.refl _, Sub.refl _, Sub.refl _, trivial⟩⟩
  · repeat (first | refine ue ?_ | refine uc ?_ | refine ud ?_ | refine uk ?_ | refine uC ?_ | refine uf ?_ | (refine ug ?_; first | refine uh tab_ok rfl rfl rfl rfl byE rfl ?_) | refine vB byO rfl rfl rfl ?_)
    exact Sub.of_eq (by rw [idxF, if_neg (by omega)])
theorem contains_ok (l : List ByteArray) (w : ByteArray) (hl : l.length ≤ 4611686018427387904) : uI Tryz.prog 61 [.sl 1 (l.map sF), .val (.string w)] (.val (.bool (l.any fun x => decide (w = x)))) := by
  refine uP Tryz.func61 Tryz.ntmps61 rfl rfl rfl fun S w0 => ?_
  repeat (first | refine ue ?_ | refine ud ?_ | refine uf ?_ | (refine ug ?_; first | refine uh tab_ok rfl rfl rfl rfl byE rfl ?_))
  refine uw (index_ok l w hl) call94 rfl rfl ⟨Sub.refl _, Sub.refl _, trivial⟩ rfl rfl rfl rfl ?_
  repeat (first | refine uc ?_ | refine uk ?_ | refine uf ?_ | (refine ug ?_; first | refine uh tab_ok rfl rfl rfl rfl byE rfl ?_) | refine vB byO rfl rfl rfl ?_)
  exact Sub.of_eq (by rw [← findR_any]; rfl)
theorem fldF_sz (s : ByteArray) : (yZ s).length ≤ s.size := by
  rw [fldF_len]
  have := cnt_le s.data.toList (0, true)
  rw [xa] at this
  omega
end Go.Proofs.YtfmafehogfikmaaGreatDoor

/- The engine: the last part of an own row, cleared, whatever its elements. -/
namespace Go.Proofs.YtfmafehogfikmaaGreatDoor
open Go Go.RowKit

theorem flat_len2 {α : Type} (l : List α) : ∀ d : Nat, (List.replicate d l).flatten.length = d * l.length
  | 0 => by simp
  | d + 1 => by rw [List.replicate_succ, List.flatten_cons, List.length_append, flat_len2 l d, Nat.add_mul]; omega
theorem zeroCells_flat (z : Array Value) (hk : 0 < z.size) (d : Nat) : (Builtin.zeroCells z d).toList = (List.replicate d z.toList).flatten := by
  have key : ∀ d : Nat, (List.range (d * z.size)).map (fun i => z[i % z.size]!) = (List.replicate d z.toList).flatten := by
    intro d
    induction d with
    | zero => simp
    | succ d ih =>
      rw [List.replicate_succ', List.flatten_append, ← ih, Nat.add_mul, Nat.one_mul, List.range_eq_range', ← List.range'_append_1, List.map_append, List.range_eq_range', Nat.zero_add]
      congr 1
      rw [List.flatten_singleton]
      apply List.ext_getElem (by simp)
      intro n h1 h2
      simp at h1
      simp [Nat.mul_add_mod_self_right, Nat.mod_eq_of_lt h1, h1]
  rw [← key d]
  simp [Builtin.zeroCells]
theorem denCs_flat {w : World} {imm : Nat → Prop} {x : D} {l : List Value} (h : DenC w imm x l) : ∀ d : Nat, DenCs w imm (List.replicate d x) (List.replicate d l).flatten
  | 0 => rfl
  | d + 1 => by
    rw [List.replicate_succ, List.replicate_succ, List.flatten_cons]
    exact ⟨l, _, rfl, h, denCs_flat h d⟩
section
variable {P : Program} {o : Oper} {M M' : List AB} {ρ : Operand → AV} {out : AV} {tab : List (Nat × TE)}
/-- clear of a row's last part, of elements of whatever size. -/
theorem astep_clear_n (ht : TyTab P tab) {T e i ver j : Nat} {ee : TE} {x : Operand} {zD : D} {es : List D} (ho : o.op = .call { callee := .builtin .clear, args := #[x], argTypes := #[T] }) (hT : uX tab T = some (e, ee)) (hk : 0 < ee.size) (hzl0 : ee.zero.length = ee.size) (hzw : zD.width = ee.size) (hz : ∀ (w : World) (imm : Nat → Prop), DenC w imm zD ee.zero) (hone' : ∀ u ∈ ee.zero, u.oneCell' = true)
    (hx : ρ x = .vw i ver (sfxV j)) (hj : j < es.length) (hM : M[i]? = some (.row ver e ee.size es)) (hv : wB ver = false) : AStep P o M ρ (M.set i (.row ver e ee.size (es.take j ++ List.replicate (es.length - j) zD))) (.tup []) := by
  intro S B β w0 w hm hs K Q hK
  have hlt : i < M.length := (List.getElem?_eq_some_iff.1 hM).1
  have h1 := hs x (by simp [ho, Op.operands, Call.operands])
  rw [hx] at h1
  obtain ⟨ab1, e1, r1⟩ := h1
  rw [hM] at e1; cases e1
  obtain ⟨g, c, A, p1, p2, p4⟩ := r1.2 rfl
  have hA := p4 hj
  subst hA
  obtain ⟨hu, he⟩ := vq ht hT
  obtain ⟨z, hz1, hz2⟩ := zR (P := P) (w := w) he
  have hzsz : z.cells.size = ee.size := by rw [← Array.length_toList, hz2, hzl0]
  obtain ⟨hW, h | ⟨g', c2, cs, b1, ⟨fz, b2, b2'⟩, b3, b4, b5, b6⟩⟩ := hm.ent i _ hM
  · rw [p1] at h; cases h.1
  rw [p1] at b1; cases b1
  have hct : cs.toList.length = cs.size := Array.length_toList
  obtain ⟨d, hd⟩ : ∃ d, d = es.length - j := ⟨_, rfl⟩
  obtain ⟨zs, hzs'⟩ : ∃ zs, zs = (Builtin.zeroCells z.cells d).toList := ⟨_, rfl⟩
  have hze : zs = (List.replicate d ee.zero).flatten := by rw [hzs', zeroCells_flat _ (by omega), hz2]
  have hzl : zs.length = d * ee.size := by rw [hze, flat_len2, hzl0]
  have hone : ∀ u ∈ zs, u.oneCell' = true := fun u hu => by
    rw [hze] at hu
    obtain ⟨l, hl, hul⟩ := List.mem_flatten.1 hu
    rw [List.eq_of_mem_replicate hl] at hul
    exact hone' u hul
  have hfit : j * ee.size + zs.length ≤ cs.size := by
    rw [hzl, b5, ← Nat.add_mul]
    exact Nat.mul_le_mul_right _ (by omega)
  have hst := wT P g (j * ee.size) e fz zs 0 cs w b2 (fun j _ h => b2'.clear hv j h) (by simpa using hfit) hone
  simp only [Nat.add_zero] at hst
  obtain ⟨ns, hns⟩ : ∃ ns : List Value, ns = cs.toList.take (j * ee.size) ++ zs ++ cs.toList.drop (j * ee.size + zs.length) := ⟨_, rfl⟩
  rw [← hns] at hst
  have hnsl : ns.length = cs.size := by
    rw [hns]; simp only [List.length_append, List.length_take, List.length_drop, hct]; omega
  have hrun : (execOp w0.eval o).run P w = .ok (.value (.tuple #[])) (w.setRow g ns.toArray) := by
    obtain ⟨m, rfl⟩ : ∃ m, d = m + 1 := ⟨d - 1, by omega⟩
    simp only [execOp, ho, resolve, invoke, builtin]
    rw [hzs'] at hst
    simp [p2, Builtin.clear_, run_underlying hu, hz1, hst, ← hd]
  unfold Oper.wp
  rw [hrun]
  have hse : xn β i (some (g, c)) = β := by funext j; by_cases hj : j = i <;> simp [xn, hj, p1]
  have hel : (es.take j ++ List.replicate d zD).length = es.length := by
    rw [List.length_append, List.length_take, List.length_replicate]; omega
  have := hm.set_ (w' := w.setRow g ns.toArray) (ab' := .row ver e ee.size (es.take j ++ List.replicate d zD)) (x := some (g, c)) hM rfl rfl rfl rfl (by simp)
    (fun b' _ hne' => setRow_other w g b' _ (fun e => hne' c (by rw [p1, e]))) (fun g' c' h => by cases h; exact .inl ⟨c, p1⟩) ⟨Nat.le_refl _, rfl, fun _ => ⟨p1.symm, hel⟩⟩
    (fun hE => ⟨by
        intro y hy
        rcases List.mem_append.1 hy with hy | hy
        · exact hW y (List.mem_of_mem_take hy)
        · rw [List.eq_of_mem_replicate hy]; exact hzw, .inr ⟨g, c, _, rfl, ⟨fz, setRow_heap w g cs _ e _ b2, by
      rw [List.size_toArray, hnsl, hel]
      exact b2'⟩, by rw [hel]; exact b3, b4, by rw [List.size_toArray, hnsl, b5], by
      have e2 : ns.take ((es.take j ++ List.replicate d zD).length * ee.size) = (cs.toList.take (es.length * ee.size)).take (j * ee.size) ++ zs := by
        have h1 : j * ee.size + d * ee.size = es.length * ee.size := by rw [← Nat.add_mul]; congr 1; omega
        have h2 : es.length * ee.size ≤ c * ee.size := Nat.mul_le_mul_right _ (by omega)
        rw [hel, List.take_take, Nat.min_eq_left (by omega), hns]
        rw [List.take_append_of_le_length (by rw [List.length_append, List.length_take, hct, hzl]; omega)]
        rw [List.take_of_length_le (by rw [List.length_append, List.length_take, hct, hzl]; omega)]
      show DenCs _ _ _ (ns.take _)
      rw [e2, hze]
      exact DenCs.mono (fun _ => immOf.ev hE) (fun _ off => immOf.cell hE off) _ _ ((b6.take_ hW).append (denCs_flat (hz _ _) d))⟩⟩)
  rw [hse, hd] at this
  exact hK _ _ _ this.1 this.2 ⟨#[], rfl, rfl⟩
end
end Go.Proofs.YtfmafehogfikmaaGreatDoor
