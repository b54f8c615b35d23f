import Derived.Test.YtbjinibmkkmhkaaDoorJa
import Derived.Test.YtbjinibmkkmhkaaDoorKd
import Derived.Laws.StructEq
import Derived.Test.YtbjinibmkkmhkaaDoort9
import Derived.Test.YtbjinibmkkmhkaaDoorWd
/- nest: nodes as plain trees; opens, closer, White, Copy, Deep. -/
namespace Go.Proofs.YtbjinibmkkmhkaaDoor
open Go Go.RowKit

inductive Nd where
  | mk (tok : Tk) (kids : List Nd)
def Nd.tok : Nd → Tk | .mk t _ => t
def Nd.kids : Nd → List Nd | .mk _ k => k
mutual
def nD : Nd → D
  | .mk t k => .ag [.val (.int .i64 t.kind), .val (.string t.text), .val (.int .i64 t.int), .val (.bool t.whole), .val (.bool t.sign), .val (.bool t.id), .sl 7 (nDs k)]
def nDs : List Nd → List D
  | [] => []
  | n :: r => nD n :: nDs r
end
mutual
def nsz : Nd → Nat
  | .mk _ k => 1 + nszs k
def nszs : List Nd → Nat
  | [] => 0
  | n :: r => nsz n + nszs r
end
/-- The same, open at its top. -/
def nF (n : Nd) : D := .ag [.val (.int .i64 n.tok.kind), .val (.string n.tok.text), .val (.int .i64 n.tok.int), .val (.bool n.tok.whole), .val (.bool n.tok.sign), .val (.bool n.tok.id), .sl 7 (n.kids.map nD)]
def ncl (n : Nd) : List AV := [.val (.int .i64 n.tok.kind), .val (.string n.tok.text), .val (.int .i64 n.tok.int), .val (.bool n.tok.whole), .val (.bool n.tok.sign), .val (.bool n.tok.id), .sl 7 (n.kids.map nD)]
def nA (n : Nd) : AV := .agg (ncl n)
def opB (t : Tk) : Bool := decide (t.kind = 2) || (decide (t.kind = 19) && (decide (t.text = ⟨#[40]⟩) || decide (t.text = ⟨#[91]⟩) || decide (t.text = ⟨#[123]⟩)))
def clF (t : Tk) : ByteArray := if (decide (t.kind = 19) && decide (t.text = ⟨#[91]⟩)) = true then ⟨#[93]⟩ else if (decide (t.kind = 19) && decide (t.text = ⟨#[123]⟩)) = true then ⟨#[125]⟩ else ⟨#[41]⟩
def whN (n : Nd) : Bool := decide (n.tok.kind = 13)
def eqT (c d : Tk) : Bool := decide (c.kind = d.kind) && (decide (c.text = d.text) && (decide (c.int = d.int) && (decide (c.whole = d.whole) && (decide (c.sign = d.sign) && decide (c.id = d.id)))))
theorem eqT_self (c : Tk) : eqT c c = true := by simp [eqT]
theorem eqT_eq {c d : Tk} (h : eqT c d = true) : c = d := by
  cases c; cases d
  simp [eqT] at h
  simp [h]
def tV (c : Tk) : Value := .agg #[.int .i64 c.kind, .string c.text, .int .i64 c.int, .bool c.whole, .bool c.sign, .bool c.id]
theorem tV_of {c : Tk} {M : List AB} {β : Env} {w : World} {imm : Nat → Prop} {v : Value} (h : AVsat M β w imm (tA c) v) : v = tV c := by
  obtain ⟨⟨cs⟩, rfl, _, _, h1, rfl, _, _, h2, rfl, _, _, h3, rfl, _, _, h4, rfl, _, _, h5, rfl, _, _, h6, rfl, h7⟩ := h
  rw [h7] at h6; rw [h6] at h5; rw [h5] at h4; rw [h4] at h3; rw [h3] at h2; rw [h2] at h1
  simp only at h1
  rw [tV, h1]
theorem run_eqT (c d : Tk) (w : World) : (Op.equalIn 10000 33 (tV c) (tV d)).run Tryd.prog w = .ok (eqT c d) w := by
  have hS : Tryd.prog.underlying 33 = some (.struct (Tryd.prog.fieldsOf 33)) := by kernel_rfl
  have hp : Tryd.prog.stoodInHeld 33 = false := by kernel_rfl
  have us := Tryd.underlying9
  have ui := Tryd.underlying3
  have ub := Tryd.underlying4
  have hps := Tryd.isAgg9 w
  have hpi := Tryd.isAgg3 w
  have hpb := Tryd.isAgg4 w
  rw [show (10000 : Nat) = 9999 + 1 from rfl, tV, tV, run_equalIn_agg w 9999 _ _ _ hS hp]
  simp only [Program.fieldsOf, Tryd.underlying33, Op.eqFields, part, Sem.run_bind, Sem.run_ite, hps, hpi, hpb, Result.andThen_ok]
  simp [run_equalIn_string w 9998 _ _ _ us, run_equalIn_int w 9998 _ _ _ _ _ ui, run_equalIn_bool' w 9998 _ _ _ ub, ← beq_toListBytes, eqT]
  have hb : (c.text == d.text) = decide (c.text = d.text) := by rw [beq_toListBytes, ByteArray.toList_eq, ByteArray.toList_eq, Bool.eq_iff_iff, beq_iff_eq, decide_eq_true_eq, Array.toList_inj, ByteArray.ext_iff]
  rw [hb]
  by_cases h1 : c.kind = d.kind <;> by_cases h2 : c.text = d.text <;> by_cases h3 : c.int = d.int <;> by_cases h4 : c.whole = d.whole <;> by_cases h5 : c.sign = d.sign <;> by_cases h6 : c.id = d.id <;> simp [h1, h2, h3, h4, h5, h6]
section
variable {o : Oper} {M : List AB} {ρ : Operand → AV}
theorem astep_neqT {u : TypeId} {x y : Operand} {c d : Tk} (ho : o.op = .binOp .neq 33 x y u) (hx : ρ x = tA c) (hy : ρ y = tA d) : AStep Tryd.prog o M ρ M (.val (.bool (!eqT c d))) :=
  .value fun S B β a w _ hs => by
    have h1 := hs x (by simp [ho, Op.operands])
    have h2 := hs y (by simp [ho, Op.operands])
    rw [hx] at h1; rw [hy] at h2
    have h1 := tV_of h1
    have h2 := tV_of h2
    refine ⟨_, ?_, rfl⟩
    have hg : (eqGuard .neq 33 x y (tV c) (tV d)).run Tryd.prog w = .ok () w := run_eqGuard_agg w _ _ _ _ _ _ (by kernel_rfl)
    have he : (binOp .neq 33 (tV c) (tV d)).run Tryd.prog w = .ok (.bool (!eqT c d)) w := by
      have := run_neq_struct (P := Tryd.prog) w 33 #[.int .i64 c.kind, .string c.text, .int .i64 c.int, .bool c.whole, .bool c.sign, .bool c.id] #[.int .i64 d.kind, .string d.text, .int .i64 d.int, .bool d.whole, .bool d.sign, .bool d.id]
      rw [← tV, ← tV, run_eqT] at this
      exact this
    simp only [execOp, ho, h1, h2, Sem.run_bind, hg, he, Result.andThen_ok]
    rfl
theorem astep_eqT {u : TypeId} {x y : Operand} {c d : Tk} (ho : o.op = .binOp .eql 33 x y u) (hx : ρ x = tA c) (hy : ρ y = tA d) : AStep Tryd.prog o M ρ M (.val (.bool (eqT c d))) :=
  .value fun S B β a w _ hs => by
    have h1 := hs x (by simp [ho, Op.operands])
    have h2 := hs y (by simp [ho, Op.operands])
    rw [hx] at h1; rw [hy] at h2
    have h1 := tV_of h1
    have h2 := tV_of h2
    refine ⟨_, ?_, rfl⟩
    have hg : (eqGuard .eql 33 x y (tV c) (tV d)).run Tryd.prog w = .ok () w := run_eqGuard_agg w _ _ _ _ _ _ (by kernel_rfl)
    have he : (binOp .eql 33 (tV c) (tV d)).run Tryd.prog w = .ok (.bool (eqT c d)) w := by
      have := run_eql_struct (P := Tryd.prog) w 33 #[.int .i64 c.kind, .string c.text, .int .i64 c.int, .bool c.whole, .bool c.sign, .bool c.id] #[.int .i64 d.kind, .string d.text, .int .i64 d.int, .bool d.whole, .bool d.sign, .bool d.id]
      rw [← tV, ← tV, run_eqT] at this
      exact this
    simp only [execOp, ho, h1, h2, Sem.run_bind, hg, he, Result.andThen_ok]
    rfl
variable {ops : Array Oper} {N : Nat} {K : AS → Prop} {r : List Oper} {fo fo' : Option (List Nat)} {F : List (Nat × AV)} {dt : Tmp}
theorem r_neqT {u : TypeId} {x y : Operand} {c d : Tk} (hg : o.guard = none) (ho : o.op = .binOp .neq 33 x y u) (hx : aval (look F) x = tA c) (hy : aval (look F) y = tA d) (hdd : o.dst = some dt) (hd : dstB o.dst N = true) (hp : popF fo 1 = some fo')
    (k : RunX Tryd.prog ops N K r fo' M ((dt, .val (.bool (!eqT c d))) :: F)) : RunX Tryd.prog ops N K (o :: r) fo M F :=
  RunX.mk (fun _ k => Run.quiet hd (StepG.plain hg (astep_neqT ho hx hy)) (by rw [put_eq hdd]; exact k)) hp k
theorem r_eqT {u : TypeId} {x y : Operand} {c d : Tk} (hg : o.guard = none) (ho : o.op = .binOp .eql 33 x y u) (hx : aval (look F) x = tA c) (hy : aval (look F) y = tA d) (hdd : o.dst = some dt) (hd : dstB o.dst N = true) (hp : popF fo 1 = some fo')
    (k : RunX Tryd.prog ops N K r fo' M ((dt, .val (.bool (eqT c d))) :: F)) : RunX Tryd.prog ops N K (o :: r) fo M F :=
  RunX.mk (fun _ k => Run.quiet hd (StepG.plain hg (astep_eqT ho hx hy)) (by rw [put_eq hdd]; exact k)) hp k
end
end Go.Proofs.YtbjinibmkkmhkaaDoor

/- law2: the tokens of a text; two lists; awake. -/
namespace Go.Proofs.YtbjinibmkkmhkaaDoor
open Go Go.RowKit
set_option maxRecDepth 20000

theorem readS_nn : ∀ (f : Nat) (fi cr : Bool) (l : List UInt8), ∀ x ∈ rdL f fi cr l, 0 ≤ x
  | 0, _, _, _, x, h => by cases h
  | f + 1, fi, cr, l, x, h => by
    rw [rdL] at h
    split at h
    · rw [List.mem_append] at h
      rcases h with h | h
      · split at h
        · cases h
        · rw [List.mem_singleton] at h
          rw [h]
          exact normR_nn _
      · exact readS_nn f _ _ _ x h
    · cases h
theorem readL_nn (s : ByteArray) : ∀ x ∈ readL s, 0 ≤ x := by
  have := read_L s.data.toList
  intro x hx
  rw [show readL s = readL ⟨s.data.toList.toArray⟩ from rfl, this] at hx
  exact readS_nn _ _ _ _ x hx
def toks (s : ByteArray) : List Tk := toksF (readL s)
theorem toks_bytes (l : List UInt8) : toks ⟨l.toArray⟩ = toksL (readS true false l) := by rw [toks, ← toks_L, read_L]
set_option maxHeartbeats 1000000 in
theorem all2_ok (s : ByteArray) (hs : s.size ≤ 549755813888) : PCalls Tryd.prog 19 [.val (.string s)] (.sl 6 ((toks s).map tD)) := by
  refine p_start Tryd.func19 Tryd.ntmps19 rfl rfl rfl fun S w => ?_
  repeat (first | refine awp_seq ?_ | refine a_region ?_ | refine r_done ?_ | (refine r_id ?_; first | refine r_ev tab_ok rfl rfl rfl rfl (by first | exact trivial | exact ⟨by omega, by omega⟩ | omega | exact ⟨by omega, by omega, by omega, by omega⟩ | exact Nat.le_of_ble_eq_true rfl) rfl ?_ | refine r_strd tab_ok rfl rfl rfl rfl rfl rfl (by omega) rfl rfl rfl ?_))
  refine r_call (refRead s.data.toList (by have : s.data.toList.length = s.size := rfl; omega)) call13 rfl rfl ⟨Sub.refl _, trivial⟩ rfl rfl rfl rfl ?_
  have hl := readL_len s
  refine r_call (pall_ok (readL s) (by omega) (readL_nn s)) call15 rfl rfl ⟨Sub.refl _, trivial⟩ rfl rfl rfl rfl ?_
  repeat (first | refine thenA_normal ?_ | refine awp_ret ?_ | refine r_done ?_ | (refine r_id ?_; first | refine r_ev tab_ok rfl rfl rfl rfl (by first | exact trivial | exact ⟨by omega, by omega⟩ | omega | exact ⟨by omega, by omega, by omega, by omega⟩ | exact Nat.le_of_ble_eq_true rfl) rfl ?_) | refine ret1 (by first | exact .inl rfl | exact .inr rfl) rfl rfl rfl ?_)
  exact Sub.refl _
instance : DecidableEq Tk := fun a b => if h : eqT a b = true then isTrue (eqT_eq h) else isFalse (fun e => h (by rw [e]; exact eqT_self _))
theorem take_eq {α : Type} {a b : List α} {i : Nat} (h : a.take i = b.take i) (ha : i < a.length) (hb : i < b.length) (he : a[i] = b[i]) : a.take (i + 1) = b.take (i + 1) := by
  rw [List.take_add_one, List.take_add_one, h, List.getElem?_eq_getElem ha, List.getElem?_eq_getElem hb, he]
set_option maxHeartbeats 2000000 in
theorem eqtoks_ok (a b : List Tk) (ha : a.length ≤ 1099511627776) (hb : b.length ≤ 1099511627776) : PCalls Tryd.prog 14 [.sl 6 (a.map tD), .sl 6 (b.map tD)] (.val (.bool (decide (a = b)))) := by
  refine p_start Tryd.func14 Tryd.ntmps14 rfl rfl rfl fun S w => ?_
  have hla : (a.map tD).length = a.length := List.length_map _
  have hlb : (b.map tD).length = b.length := List.length_map _
  repeat (first | refine awp_seq ?_ | refine thenA_normal ?_ | refine a_region ?_ | refine r_done ?_ | (refine r_id ?_; first | refine r_len tab_ok rfl rfl rfl rfl rfl rfl rfl ?_ | refine r_ev tab_ok rfl rfl rfl rfl (by first | exact trivial | exact ⟨by omega, by omega⟩ | omega | exact ⟨by omega, by omega, by omega, by omega⟩ | exact Nat.le_of_ble_eq_true rfl) rfl ?_))
  refine awp_cond rfl (fun h => ?_) (fun h => ?_)
  · have h' : a ≠ b := fun e => by subst e; simp at h
    rw [decide_eq_false h']
    repeat (first | refine awp_seq ?_ | refine thenA_normal ?_ | refine a_region ?_ | refine awp_ret ?_ | refine thenA_ret ?_ | refine r_done ?_ | (refine r_id ?_; first | refine r_ev tab_ok rfl rfl rfl rfl (by first | exact trivial | exact ⟨by omega, by omega⟩ | omega | exact ⟨by omega, by omega, by omega, by omega⟩ | exact Nat.le_of_ble_eq_true rfl) rfl ?_) | refine ret1 (by first | exact .inl rfl | exact .inr rfl) rfl rfl rfl ?_)
    exact Sub.refl _
  have hlen : a.length = b.length := by
    have : ((a.length : Nat) : Int) = (b.length : Nat) := by simpa using h
    omega
  repeat (first | refine awp_seq ?_ | refine thenA_normal ?_ | refine awp_block ?_ | refine a_region ?_ | refine awp_skip ?_ | refine r_done ?_ | (refine r_id ?_; first | refine r_ev tab_ok rfl rfl rfl rfl (by first | exact trivial | exact ⟨by omega, by omega⟩ | omega | exact ⟨by omega, by omega, by omega, by omega⟩ | exact Nat.le_of_ble_eq_true rfl) rfl ?_))
  refine a_loop (σ := {i : Nat // i ≤ a.length ∧ a.take i = b.take i}) (fun _ => []) (fun x => [(0, .sl 6 (a.map tD)), (1, .sl 6 (b.map tD)), (5, .val (.int .i64 x.1))]) (fun x => a.length - x.1) ⟨0, Nat.zero_le _, rfl⟩ (fits_of rfl (by repeat' first | exact trivial | exact Sub.refl _ | exact rfl | apply And.intro)) ?_
  rintro ⟨i, hi, he⟩
  dsimp only
  repeat (first | refine awp_seq ?_ | refine thenA_normal ?_ | refine a_region ?_ | refine r_done ?_ | (refine r_id ?_; first | refine r_len tab_ok rfl rfl rfl rfl rfl rfl rfl ?_ | refine r_ev tab_ok rfl rfl rfl rfl (by first | exact trivial | exact ⟨by omega, by omega⟩ | omega | exact ⟨by omega, by omega, by omega, by omega⟩ | exact Nat.le_of_ble_eq_true rfl) rfl ?_))
  refine awp_cond_p rfl (fun hlt => ?_) (fun hge => ?_)
  · have hia : i < a.length := by omega
    have hib : i < b.length := by omega
    repeat (first | refine awp_seq ?_ | refine awp_block ?_ | refine a_draw1 mixed_ok (by kernel_rfl) ?_ | refine awp_skip ?_ | (refine r_id ?_; first | refine r_ev tab_ok rfl rfl rfl rfl (by first | exact trivial | exact ⟨by omega, by omega⟩ | omega | exact ⟨by omega, by omega, by omega, by omega⟩ | exact Nat.le_of_ble_eq_true rfl) rfl ?_ | refine r_idx tab_ok rfl rfl rfl rfl rfl rfl rfl (by first | exact ⟨by omega, by omega⟩ | (simp; omega)) rfl rfl ?_))
    refine r_neqT (c := a[((i : Nat) : Int).toNat]'(by simpa using hia)) (d := b[((i : Nat) : Int).toNat]'(by simpa using hib)) rfl rfl rfl rfl rfl rfl rfl ?_
    repeat (first | refine thenA_normal ?_ | refine r_done' ?_)
    refine awp_cond rfl (fun h2 => ?_) (fun h2 => ?_)
    · have h' : a ≠ b := fun e => by subst e; rw [eqT_self] at h2; cases h2
      rw [decide_eq_false h']
      repeat (first | refine awp_seq ?_ | refine thenA_normal ?_ | refine a_region ?_ | refine awp_ret ?_ | refine thenA_ret ?_ | refine blockA_ret ?_ | refine r_done ?_ | (refine r_id ?_; first | refine r_ev tab_ok rfl rfl rfl rfl (by first | exact trivial | exact ⟨by omega, by omega⟩ | omega | exact ⟨by omega, by omega, by omega, by omega⟩ | exact Nat.le_of_ble_eq_true rfl) rfl ?_) | refine ret1 (by first | exact .inl rfl | exact .inr rfl) rfl rfl rfl ?_)
      exact Sub.refl _
    · have h3 := eqT_eq (c := a[((i : Nat) : Int).toNat]'(by simpa using hia)) (d := b[((i : Nat) : Int).toNat]'(by simpa using hib)) (by simpa using h2)
      repeat (first | refine thenA_normal ?_ | refine a_region ?_ | refine awp_skip ?_ | refine r_done ?_ | (refine r_id ?_; first | refine r_ev tab_ok rfl rfl rfl rfl (by first | exact trivial | exact ⟨by omega, by omega⟩ | omega | exact ⟨by omega, by omega, by omega, by omega⟩ | exact Nat.le_of_ble_eq_true rfl) rfl ?_))
      exact ⟨⟨i + 1, hia, take_eq he hia hib h3⟩, by dsimp only; omega, fits_of rfl (by repeat' first | exact trivial | exact Sub.refl _ | exact rfl | apply And.intro)⟩
  · have : i = a.length := by omega
    subst this
    rw [List.take_length, hlen, List.take_length] at he
    rw [decide_eq_true he]
    repeat (first | refine awp_seq ?_ | refine thenA_normal ?_ | refine a_region ?_ | refine awp_ret ?_ | refine awp_exit ?_ | refine r_done ?_ | (refine r_id ?_; first | refine r_ev tab_ok rfl rfl rfl rfl (by first | exact trivial | exact ⟨by omega, by omega⟩ | omega | exact ⟨by omega, by omega, by omega, by omega⟩ | exact Nat.le_of_ble_eq_true rfl) rfl ?_) | refine ret1 (by first | exact .inl rfl | exact .inr rfl) rfl rfl rfl ?_)
    exact Sub.refl _
def awS : ByteArray := ⟨#[97, 123, 98, 58, 49, 59, 125, 32, 35, 120, 32, 45, 50, 46, 53, 112, 120, 32, 117, 114, 108, 40, 32, 121, 32, 41, 32, 34, 113, 34, 32, 64, 122, 32, 60, 33, 45, 45, 32, 102, 40, 47, 42, 42, 47, 53, 48, 37]⟩
theorem aw_toks : toks awS = [⟨1, ⟨#[97]⟩, 0, false, false, false⟩, ⟨19, ⟨#[123]⟩, 0, false, false, false⟩, ⟨1, ⟨#[98]⟩, 0, false, false, false⟩, ⟨16, ⟨#[]⟩, 0, false, false, false⟩, ⟨10, ⟨#[]⟩, 1, true, false, false⟩, ⟨17, ⟨#[]⟩, 0, false, false, false⟩, ⟨20, ⟨#[125]⟩, 0, false, false, false⟩, ⟨13, ⟨#[]⟩, 0, false, false, false⟩, ⟨4, ⟨#[120]⟩, 0, false, false, true⟩, ⟨13, ⟨#[]⟩, 0, false, false, false⟩, ⟨12, ⟨#[112, 120]⟩, 0, false, true, false⟩, ⟨13, ⟨#[]⟩, 0, false, false, false⟩, ⟨7, ⟨#[121]⟩, 0, false, false, false⟩, ⟨13, ⟨#[]⟩, 0, false, false, false⟩, ⟨5, ⟨#[113]⟩, 0, false, false, false⟩, ⟨13, ⟨#[]⟩, 0, false, false, false⟩, ⟨3, ⟨#[122]⟩, 0, false, false, false⟩, ⟨13, ⟨#[]⟩, 0, false, false, false⟩, ⟨14, ⟨#[]⟩, 0, false, false, false⟩, ⟨13, ⟨#[]⟩, 0, false, false, false⟩, ⟨2, ⟨#[102]⟩, 0, false, false, false⟩, ⟨11, ⟨#[]⟩, 50, true, false, false⟩] := by kernel_rfl
theorem awAll2 : PCalls Tryd.prog 19 [.val (.string awS)] (.sl 6 (([⟨1, ⟨#[97]⟩, 0, false, false, false⟩, ⟨19, ⟨#[123]⟩, 0, false, false, false⟩, ⟨1, ⟨#[98]⟩, 0, false, false, false⟩, ⟨16, ⟨#[]⟩, 0, false, false, false⟩, ⟨10, ⟨#[]⟩, 1, true, false, false⟩, ⟨17, ⟨#[]⟩, 0, false, false, false⟩, ⟨20, ⟨#[125]⟩, 0, false, false, false⟩, ⟨13, ⟨#[]⟩, 0, false, false, false⟩, ⟨4, ⟨#[120]⟩, 0, false, false, true⟩, ⟨13, ⟨#[]⟩, 0, false, false, false⟩, ⟨12, ⟨#[112, 120]⟩, 0, false, true, false⟩, ⟨13, ⟨#[]⟩, 0, false, false, false⟩, ⟨7, ⟨#[121]⟩, 0, false, false, false⟩, ⟨13, ⟨#[]⟩, 0, false, false, false⟩, ⟨5, ⟨#[113]⟩, 0, false, false, false⟩, ⟨13, ⟨#[]⟩, 0, false, false, false⟩, ⟨3, ⟨#[122]⟩, 0, false, false, false⟩, ⟨13, ⟨#[]⟩, 0, false, false, false⟩, ⟨14, ⟨#[]⟩, 0, false, false, false⟩, ⟨13, ⟨#[]⟩, 0, false, false, false⟩, ⟨2, ⟨#[102]⟩, 0, false, false, false⟩, ⟨11, ⟨#[]⟩, 50, true, false, false⟩] : List Tk).map tD)) := by
  rw [← aw_toks]
  exact all2_ok awS (by decide)
theorem awInt1 : PCalls Tryd.prog 17 [.val (.string ⟨#[45, 57, 57, 57, 57, 57, 57, 57, 57, 57, 57, 57]⟩)] (.val (.int .i64 (-2147483648))) := pint_ok ⟨#[45, 57, 57, 57, 57, 57, 57, 57, 57, 57, 57, 57]⟩ (by decide)
theorem awInt2 : PCalls Tryd.prog 17 [.val (.string ⟨#[43, 55]⟩)] (.val (.int .i64 7)) := pint_ok ⟨#[43, 55]⟩ (by decide)
theorem awInt3 : PCalls Tryd.prog 17 [.val (.string ⟨#[120]⟩)] (.val (.int .i64 0)) := pint_ok ⟨#[120]⟩ (by decide)
set_option maxHeartbeats 8000000 in
theorem awake2_ok : PCalls Tryd.prog 12 [] (.val (.bool true)) := by
  refine p_start Tryd.func12 Tryd.ntmps12 rfl rfl rfl fun S w => ?_
  repeat (first | refine awp_seq ?_ | refine a_region ?_ | refine r_done ?_ | (refine r_id ?_; first | refine r_ev tab_ok rfl rfl rfl rfl (by first | exact trivial | exact ⟨by omega, by omega⟩ | omega | exact ⟨by omega, by omega, by omega, by omega⟩ | exact Nat.le_of_ble_eq_true rfl) rfl ?_))
  refine r_call awAll2 call19 rfl rfl ⟨Sub.refl _, trivial⟩ rfl rfl rfl rfl ?_
  repeat (first | refine awp_seq ?_ | refine a_region ?_ | refine r_done ?_ | (refine r_id ?_; first | refine r_len tab_ok rfl rfl rfl rfl rfl rfl rfl ?_ | refine r_ev tab_ok rfl rfl rfl rfl (by first | exact trivial | exact ⟨by omega, by omega⟩ | omega | exact ⟨by omega, by omega, by omega, by omega⟩ | exact Nat.le_of_ble_eq_true rfl) rfl ?_ | refine r_idxd tab_ok rfl rfl rfl rfl rfl rfl rfl (by decide) rfl rfl rfl ?_ | refine r_ev_on tab_ok rfl rfl rfl rfl rfl rfl (by first | exact trivial | exact ⟨by omega, by omega⟩ | omega) rfl ?_ | refine r_build tab_ok rfl rfl rfl rfl rfl rfl ?_) | refine r_g rfl rfl rfl ?_)
  refine r_eqT (c := ⟨1, ⟨#[97]⟩, 0, false, false, false⟩) (d := ⟨1, ⟨#[97]⟩, 0, false, false, false⟩) rfl rfl rfl rfl rfl rfl rfl ?_
  repeat (first | (refine r_id ?_; first | refine r_ev tab_ok rfl rfl rfl rfl (by first | exact trivial | exact ⟨by omega, by omega⟩ | omega | exact ⟨by omega, by omega, by omega, by omega⟩ | exact Nat.le_of_ble_eq_true rfl) rfl ?_ | refine r_idxd tab_ok rfl rfl rfl rfl rfl rfl rfl (by decide) rfl rfl rfl ?_ | refine r_pick_t rfl rfl rfl rfl rfl rfl rfl ?_ | refine r_ev_on tab_ok rfl rfl rfl rfl rfl rfl (by first | exact trivial | exact ⟨by omega, by omega⟩ | omega) rfl ?_ | refine r_build tab_ok rfl rfl rfl rfl rfl rfl ?_) | refine r_g rfl rfl rfl ?_)
  refine r_eqT (c := ⟨10, ⟨#[]⟩, 1, true, false, false⟩) (d := ⟨10, ⟨#[]⟩, 1, true, false, false⟩) rfl rfl rfl rfl rfl rfl rfl ?_
  repeat (first | (refine r_id ?_; first | refine r_ev tab_ok rfl rfl rfl rfl (by first | exact trivial | exact ⟨by omega, by omega⟩ | omega | exact ⟨by omega, by omega, by omega, by omega⟩ | exact Nat.le_of_ble_eq_true rfl) rfl ?_ | refine r_idxd tab_ok rfl rfl rfl rfl rfl rfl rfl (by decide) rfl rfl rfl ?_ | refine r_pick_t rfl rfl rfl rfl rfl rfl rfl ?_ | refine r_ev_on tab_ok rfl rfl rfl rfl rfl rfl (by first | exact trivial | exact ⟨by omega, by omega⟩ | omega) rfl ?_ | refine r_build tab_ok rfl rfl rfl rfl rfl rfl ?_) | refine r_g rfl rfl rfl ?_)
  refine r_eqT (c := ⟨4, ⟨#[120]⟩, 0, false, false, true⟩) (d := ⟨4, ⟨#[120]⟩, 0, false, false, true⟩) rfl rfl rfl rfl rfl rfl rfl ?_
  repeat (first | (refine r_id ?_; first | refine r_ev tab_ok rfl rfl rfl rfl (by first | exact trivial | exact ⟨by omega, by omega⟩ | omega | exact ⟨by omega, by omega, by omega, by omega⟩ | exact Nat.le_of_ble_eq_true rfl) rfl ?_ | refine r_idxd tab_ok rfl rfl rfl rfl rfl rfl rfl (by decide) rfl rfl rfl ?_ | refine r_pick_t rfl rfl rfl rfl rfl rfl rfl ?_ | refine r_ev_on tab_ok rfl rfl rfl rfl rfl rfl (by first | exact trivial | exact ⟨by omega, by omega⟩ | omega) rfl ?_ | refine r_build tab_ok rfl rfl rfl rfl rfl rfl ?_) | refine r_g rfl rfl rfl ?_)
  refine r_eqT (c := ⟨12, ⟨#[112, 120]⟩, 0, false, true, false⟩) (d := ⟨12, ⟨#[112, 120]⟩, 0, false, true, false⟩) rfl rfl rfl rfl rfl rfl rfl ?_
  repeat (first | (refine r_id ?_; first | refine r_ev tab_ok rfl rfl rfl rfl (by first | exact trivial | exact ⟨by omega, by omega⟩ | omega | exact ⟨by omega, by omega, by omega, by omega⟩ | exact Nat.le_of_ble_eq_true rfl) rfl ?_ | refine r_idxd tab_ok rfl rfl rfl rfl rfl rfl rfl (by decide) rfl rfl rfl ?_ | refine r_pick_t rfl rfl rfl rfl rfl rfl rfl ?_ | refine r_ev_on tab_ok rfl rfl rfl rfl rfl rfl (by first | exact trivial | exact ⟨by omega, by omega⟩ | omega) rfl ?_ | refine r_build tab_ok rfl rfl rfl rfl rfl rfl ?_) | refine r_g rfl rfl rfl ?_)
  refine r_eqT (c := ⟨7, ⟨#[121]⟩, 0, false, false, false⟩) (d := ⟨7, ⟨#[121]⟩, 0, false, false, false⟩) rfl rfl rfl rfl rfl rfl rfl ?_
  repeat (first | (refine r_id ?_; first | refine r_ev tab_ok rfl rfl rfl rfl (by first | exact trivial | exact ⟨by omega, by omega⟩ | omega | exact ⟨by omega, by omega, by omega, by omega⟩ | exact Nat.le_of_ble_eq_true rfl) rfl ?_ | refine r_idxd tab_ok rfl rfl rfl rfl rfl rfl rfl (by decide) rfl rfl rfl ?_ | refine r_pick_t rfl rfl rfl rfl rfl rfl rfl ?_ | refine r_ev_on tab_ok rfl rfl rfl rfl rfl rfl (by first | exact trivial | exact ⟨by omega, by omega⟩ | omega) rfl ?_ | refine r_build tab_ok rfl rfl rfl rfl rfl rfl ?_) | refine r_g rfl rfl rfl ?_)
  refine r_eqT (c := ⟨5, ⟨#[113]⟩, 0, false, false, false⟩) (d := ⟨5, ⟨#[113]⟩, 0, false, false, false⟩) rfl rfl rfl rfl rfl rfl rfl ?_
  repeat (first | (refine r_id ?_; first | refine r_ev tab_ok rfl rfl rfl rfl (by first | exact trivial | exact ⟨by omega, by omega⟩ | omega | exact ⟨by omega, by omega, by omega, by omega⟩ | exact Nat.le_of_ble_eq_true rfl) rfl ?_ | refine r_idxd tab_ok rfl rfl rfl rfl rfl rfl rfl (by decide) rfl rfl rfl ?_ | refine r_pick_t rfl rfl rfl rfl rfl rfl rfl ?_ | refine r_ev_on tab_ok rfl rfl rfl rfl rfl rfl (by first | exact trivial | exact ⟨by omega, by omega⟩ | omega) rfl ?_ | refine r_build tab_ok rfl rfl rfl rfl rfl rfl ?_) | refine r_g rfl rfl rfl ?_)
  refine r_eqT (c := ⟨3, ⟨#[122]⟩, 0, false, false, false⟩) (d := ⟨3, ⟨#[122]⟩, 0, false, false, false⟩) rfl rfl rfl rfl rfl rfl rfl ?_
  repeat (first | (refine r_id ?_; first | refine r_ev tab_ok rfl rfl rfl rfl (by first | exact trivial | exact ⟨by omega, by omega⟩ | omega | exact ⟨by omega, by omega, by omega, by omega⟩ | exact Nat.le_of_ble_eq_true rfl) rfl ?_ | refine r_idxd tab_ok rfl rfl rfl rfl rfl rfl rfl (by decide) rfl rfl rfl ?_ | refine r_pick_t rfl rfl rfl rfl rfl rfl rfl ?_ | refine r_ev_on tab_ok rfl rfl rfl rfl rfl rfl (by first | exact trivial | exact ⟨by omega, by omega⟩ | omega) rfl ?_ | refine r_build tab_ok rfl rfl rfl rfl rfl rfl ?_) | refine r_g rfl rfl rfl ?_)
  refine r_eqT (c := ⟨2, ⟨#[102]⟩, 0, false, false, false⟩) (d := ⟨2, ⟨#[102]⟩, 0, false, false, false⟩) rfl rfl rfl rfl rfl rfl rfl ?_
  repeat (first | (refine r_id ?_; first | refine r_ev tab_ok rfl rfl rfl rfl (by first | exact trivial | exact ⟨by omega, by omega⟩ | omega | exact ⟨by omega, by omega, by omega, by omega⟩ | exact Nat.le_of_ble_eq_true rfl) rfl ?_ | refine r_idxd tab_ok rfl rfl rfl rfl rfl rfl rfl (by decide) rfl rfl rfl ?_ | refine r_pick_t rfl rfl rfl rfl rfl rfl rfl ?_ | refine r_ev_on tab_ok rfl rfl rfl rfl rfl rfl (by first | exact trivial | exact ⟨by omega, by omega⟩ | omega) rfl ?_) | refine r_g rfl rfl rfl ?_)
  refine r_call awInt1 call17 rfl rfl ⟨Sub.refl _, trivial⟩ rfl rfl rfl rfl ?_
  repeat (first | (refine r_id ?_; first | refine r_ev tab_ok rfl rfl rfl rfl (by first | exact trivial | exact ⟨by omega, by omega⟩ | omega | exact ⟨by omega, by omega, by omega, by omega⟩ | exact Nat.le_of_ble_eq_true rfl) rfl ?_ | refine r_pick_t rfl rfl rfl rfl rfl rfl rfl ?_ | refine r_ev_on tab_ok rfl rfl rfl rfl rfl rfl (by first | exact trivial | exact ⟨by omega, by omega⟩ | omega) rfl ?_) | refine r_g rfl rfl rfl ?_)
  refine r_call awInt2 call17 rfl rfl ⟨Sub.refl _, trivial⟩ rfl rfl rfl rfl ?_
  repeat (first | (refine r_id ?_; first | refine r_ev tab_ok rfl rfl rfl rfl (by first | exact trivial | exact ⟨by omega, by omega⟩ | omega | exact ⟨by omega, by omega, by omega, by omega⟩ | exact Nat.le_of_ble_eq_true rfl) rfl ?_ | refine r_pick_t rfl rfl rfl rfl rfl rfl rfl ?_ | refine r_ev_on tab_ok rfl rfl rfl rfl rfl rfl (by first | exact trivial | exact ⟨by omega, by omega⟩ | omega) rfl ?_) | refine r_g rfl rfl rfl ?_)
  refine r_call awInt3 call17 rfl rfl ⟨Sub.refl _, trivial⟩ rfl rfl rfl rfl ?_
  repeat (first | refine thenA_normal ?_ | refine awp_ret ?_ | refine r_done ?_ | (refine r_id ?_; first | refine r_ev tab_ok rfl rfl rfl rfl (by first | exact trivial | exact ⟨by omega, by omega⟩ | omega | exact ⟨by omega, by omega, by omega, by omega⟩ | exact Nat.le_of_ble_eq_true rfl) rfl ?_ | refine r_pick_t rfl rfl rfl rfl rfl rfl rfl ?_ | refine r_ev_on tab_ok rfl rfl rfl rfl rfl rfl (by first | exact trivial | exact ⟨by omega, by omega⟩ | omega) rfl ?_) | refine ret1 (by first | exact .inl rfl | exact .inr rfl) rfl rfl rfl ?_)
  exact Sub.refl _
end Go.Proofs.YtbjinibmkkmhkaaDoor
