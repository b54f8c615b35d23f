import Derived.Test.YtogjmafjoliimaaJ7
import Derived.Test.YtogjmafjoliimaaKd
import Derived.Laws.StructEq
/- nest: nodes as plain trees; opens, closer, White, Copy, Deep. -/
namespace Go.Proofs.Ytogjmafjoliimaa
open Go Go.RowKit

inductive Nd where
  | mk (tok : Tk) (kids : List Nd)
def Nd.tok : Nd → Tk | .mk t _ => t
def Nd.kids : Nd → List Nd | .mk _ k => k
mutual
def nD : Nd → D
  | .mk t k => .ag [.val (.int .i64 t.kind), .val (.string t.text), .val (.int .i64 t.int), .val (.bool t.whole), .val (.bool t.sign), .val (.bool t.id), .sl 7 (nDs k)]
def nDs : List Nd → List D
  | [] => []
  | n :: r => nD n :: nDs r
end
theorem nDs_map : ∀ l : List Nd, nDs l = l.map nD
  | [] => rfl
  | n :: r => by rw [nDs, nDs_map r]; rfl
theorem nD_eq (n : Nd) : nD n = .ag [.val (.int .i64 n.tok.kind), .val (.string n.tok.text), .val (.int .i64 n.tok.int), .val (.bool n.tok.whole), .val (.bool n.tok.sign), .val (.bool n.tok.id), .sl 7 (n.kids.map nD)] := by
  cases n
  rw [nD, nDs_map]
  rfl
mutual
def nsz : Nd → Nat
  | .mk _ k => 1 + nszs k
def nszs : List Nd → Nat
  | [] => 0
  | n :: r => nsz n + nszs r
end
theorem nsz_eq (n : Nd) : nsz n = 1 + nszs n.kids := by cases n; rfl
theorem nszs_len : ∀ l : List Nd, l.length ≤ nszs l
  | [] => Nat.le_refl _
  | n :: r => by
    have := nszs_len r
    have := nsz_eq n
    rw [nszs, List.length_cons]
    omega
theorem nszs_at : ∀ {l : List Nd} {i : Nat} (h : i < l.length), nszs l[i].kids < nszs l
  | n :: r, 0, _ => by
    have := nsz_eq n
    rw [nszs]
    show nszs n.kids < _
    omega
  | n :: r, i + 1, h => by
    have := nszs_at (l := r) (i := i) (by simpa using h)
    rw [nszs]
    show nszs (r[i]'(by simpa using h)).kids < _
    omega
/-- The same, open at its top. -/
def nF (n : Nd) : D := .ag [.val (.int .i64 n.tok.kind), .val (.string n.tok.text), .val (.int .i64 n.tok.int), .val (.bool n.tok.whole), .val (.bool n.tok.sign), .val (.bool n.tok.id), .sl 7 (n.kids.map nD)]
theorem nD_fun : nD = nF := by
  funext n
  exact nD_eq n
def ncl (n : Nd) : List AV := [.val (.int .i64 n.tok.kind), .val (.string n.tok.text), .val (.int .i64 n.tok.int), .val (.bool n.tok.whole), .val (.bool n.tok.sign), .val (.bool n.tok.id), .sl 7 (n.kids.map nD)]
def nA (n : Nd) : AV := .agg (ncl n)
def opB (t : Tk) : Bool := decide (t.kind = 2) || (decide (t.kind = 19) && (decide (t.text = ⟨#[40]⟩) || decide (t.text = ⟨#[91]⟩) || decide (t.text = ⟨#[123]⟩)))
def clF (t : Tk) : ByteArray := if (decide (t.kind = 19) && decide (t.text = ⟨#[91]⟩)) = true then ⟨#[93]⟩ else if (decide (t.kind = 19) && decide (t.text = ⟨#[123]⟩)) = true then ⟨#[125]⟩ else ⟨#[41]⟩
theorem opens_ok (t : Tk) : PCalls Try.prog 21 [tA t] (.val (.bool (opB t))) := by
  refine p_start Try.func21 Try.ntmps21 rfl rfl rfl fun S w => ?_
  repeat (first
    | refine awp_seq ?_
    | refine thenA_normal ?_
    | refine a_region ?_
    | refine awp_ret ?_
    | refine r_done ?_
    | (refine r_id ?_; first
      | refine r_ev tab_ok rfl rfl rfl rfl (by first | exact trivial | exact ⟨by omega, by omega⟩ | omega | exact ⟨by omega, by omega, by omega, by omega⟩ | exact Nat.le_of_ble_eq_true rfl) rfl ?_
      | refine r_ld tab_ok rfl rfl rfl rfl rfl ?_
      | refine r_wr tab_ok rfl rfl rfl rfl rfl ?_
      | refine r_ev_cnd tab_ok rfl rfl rfl rfl rfl rfl (by first | exact fun _ => rfl | exact cs1 | exact cs2 | exact cs3) (by first | exact fun _ => trivial | (intro h; simp at h; first | exact ⟨by omega, by omega⟩ | omega)) rfl ?_
      | refine r_ld_cnd tab_ok rfl rfl rfl rfl rfl rfl (by first | exact fun _ => rfl | exact cs1 | exact cs2 | exact cs3) rfl ?_
      | refine r_and_cnd rfl rfl rfl rfl rfl rfl rfl rfl rfl rfl ?_
      | refine r_or_cnd rfl rfl rfl rfl rfl rfl rfl rfl rfl rfl ?_
      | refine r_or rfl rfl rfl rfl rfl rfl rfl rfl ?_)
    | refine ret1 (by first | exact .inl rfl | exact .inr rfl) rfl rfl rfl ?_)
  exact Sub.refl _
theorem closer_ok (t : Tk) : PCalls Try.prog 22 [tA t] (.val (.string (clF t))) := by
  refine p_start Try.func22 Try.ntmps22 rfl rfl rfl fun S w => ?_
  repeat (first
    | refine awp_seq ?_
    | refine thenA_normal ?_
    | refine awp_block ?_
    | refine a_region ?_
    | refine r_done ?_
    | (refine r_id ?_; first
      | refine r_ev tab_ok rfl rfl rfl rfl (by first | exact trivial | exact ⟨by omega, by omega⟩ | omega | exact ⟨by omega, by omega, by omega, by omega⟩ | exact Nat.le_of_ble_eq_true rfl) rfl ?_
      | refine r_ld tab_ok rfl rfl rfl rfl rfl ?_
      | refine r_wr tab_ok rfl rfl rfl rfl rfl ?_
      | refine r_ev_cnd tab_ok rfl rfl rfl rfl rfl rfl (by first | exact fun _ => rfl | exact cs1 | exact cs2 | exact cs3) (by first | exact fun _ => trivial | (intro h; simp at h; first | exact ⟨by omega, by omega⟩ | omega)) rfl ?_
      | refine r_ld_cnd tab_ok rfl rfl rfl rfl rfl rfl (by first | exact fun _ => rfl | exact cs1 | exact cs2 | exact cs3) rfl ?_
      | refine r_and rfl rfl rfl rfl rfl rfl rfl rfl ?_))
  refine awp_cond rfl (fun h => ?_) (fun h => ?_)
  · rw [clF, if_pos h]
    repeat (first
      | refine awp_seq ?_
      | refine thenA_normal ?_
      | refine a_region ?_
      | refine awp_ret ?_
      | refine thenA_ret ?_
      | refine blockA_ret ?_
      | refine r_done ?_
      | (refine r_id ?_; first
        | refine r_ev tab_ok rfl rfl rfl rfl (by first | exact trivial | exact ⟨by omega, by omega⟩ | omega | exact ⟨by omega, by omega, by omega, by omega⟩ | exact Nat.le_of_ble_eq_true rfl) rfl ?_)
      | refine ret1 (by first | exact .inl rfl | exact .inr rfl) rfl rfl rfl ?_)
    exact Sub.refl _
  rw [clF, if_neg (by rw [h]; decide)]
  repeat (first
    | refine awp_seq ?_
    | refine thenA_normal ?_
    | refine a_region ?_
    | refine r_done ?_
    | (refine r_id ?_; first
      | refine r_ev tab_ok rfl rfl rfl rfl (by first | exact trivial | exact ⟨by omega, by omega⟩ | omega | exact ⟨by omega, by omega, by omega, by omega⟩ | exact Nat.le_of_ble_eq_true rfl) rfl ?_
      | refine r_ld tab_ok rfl rfl rfl rfl rfl ?_
      | refine r_ev_cnd tab_ok rfl rfl rfl rfl rfl rfl (by first | exact fun _ => rfl | exact cs1 | exact cs2 | exact cs3) (by first | exact fun _ => trivial | (intro h; simp at h; first | exact ⟨by omega, by omega⟩ | omega)) rfl ?_
      | refine r_ld_cnd tab_ok rfl rfl rfl rfl rfl rfl (by first | exact fun _ => rfl | exact cs1 | exact cs2 | exact cs3) rfl ?_
      | refine r_and rfl rfl rfl rfl rfl rfl rfl rfl ?_))
  refine awp_cond rfl (fun h => ?_) (fun h => ?_)
  · rw [if_pos h]
    repeat (first
      | refine awp_seq ?_
      | refine thenA_normal ?_
      | refine a_region ?_
      | refine awp_ret ?_
      | refine thenA_ret ?_
      | refine blockA_ret ?_
      | refine r_done ?_
      | (refine r_id ?_; first
        | refine r_ev tab_ok rfl rfl rfl rfl (by first | exact trivial | exact ⟨by omega, by omega⟩ | omega | exact ⟨by omega, by omega, by omega, by omega⟩ | exact Nat.le_of_ble_eq_true rfl) rfl ?_)
      | refine ret1 (by first | exact .inl rfl | exact .inr rfl) rfl rfl rfl ?_)
    exact Sub.refl _
  rw [if_neg (by rw [h]; decide)]
  repeat (first
    | refine awp_seq ?_
    | refine thenA_normal ?_
    | refine a_region ?_
    | refine awp_ret ?_
    | refine awp_skip ?_
    | refine r_done ?_
    | (refine r_id ?_; first
      | refine r_ev tab_ok rfl rfl rfl rfl (by first | exact trivial | exact ⟨by omega, by omega⟩ | omega | exact ⟨by omega, by omega, by omega, by omega⟩ | exact Nat.le_of_ble_eq_true rfl) rfl ?_)
    | refine ret1 (by first | exact .inl rfl | exact .inr rfl) rfl rfl rfl ?_)
  exact Sub.refl _
def whN (n : Nd) : Bool := decide (n.tok.kind = 13)
theorem White_ok (n : Nd) : PCalls Try.prog 27 [nA n] (.val (.bool (whN n))) := by
  refine p_start Try.func27 Try.ntmps27 rfl rfl rfl fun S w => ?_
  repeat (first
    | refine awp_seq ?_
    | refine thenA_normal ?_
    | refine a_region ?_
    | refine awp_ret ?_
    | refine r_done ?_
    | (refine r_id ?_; first
      | refine r_ev tab_ok rfl rfl rfl rfl (by first | exact trivial | exact ⟨by omega, by omega⟩ | omega | exact ⟨by omega, by omega, by omega, by omega⟩ | exact Nat.le_of_ble_eq_true rfl) rfl ?_
      | refine r_ld tab_ok rfl rfl rfl rfl rfl ?_
      | refine r_wr tab_ok rfl rfl rfl rfl rfl ?_)
    | refine ret1 (by first | exact .inl rfl | exact .inr rfl) rfl rfl rfl ?_)
  exact Sub.refl _
theorem cloneN_ok (l : List Nd) (hl : l.length ≤ 1099511627776) : MCalls Try.prog 30 [] [.sl 7 (l.map nF)] [.row 0 36 7 (l.map nF)] (.row 0 0) := by
  refine mcalls_ofn Try.func30 Try.ntmps30 rfl rfl rfl 1 (by decide) fun S w β => ?_
  have hlm : (l.map nF).length = l.length := List.length_map _
  repeat (first
    | refine awp_seq ?_
    | refine thenA_normal ?_
    | refine a_region ?_
    | refine r_done ?_
    | (refine r_id ?_; first
      | refine r_ev tab_ok rfl rfl rfl rfl (by first | exact trivial | exact ⟨by omega, by omega⟩ | omega | exact ⟨by omega, by omega, by omega, by omega⟩ | exact Nat.le_of_ble_eq_true rfl) rfl ?_))
  refine awp_cond_u rfl (fun he => ?_) (fun _ => ?_)
  · have : l = [] := by simpa using he
    subst this
    repeat (first
      | refine awp_seq ?_
      | refine thenA_normal ?_
      | refine a_region ?_
      | refine r_done ?_
      | (refine r_id ?_; first
        | refine r_ev tab_ok rfl rfl rfl rfl (by first | exact trivial | exact ⟨by omega, by omega⟩ | omega | exact ⟨by omega, by omega, by omega, by omega⟩ | exact Nat.le_of_ble_eq_true rfl) rfl ?_))
    refine awp_fits (s' := ⟨[.row 0 36 7 []], [(2, .row 0 0)]⟩) (fits_conv (by repeat' first | exact trivial | exact rfl | (rw [List.map_append]; first | done | rfl) | exact c_sub rfl (Sub.refl _) rfl | exact c_nil rfl rfl | exact c_thaw rfl rfl rfl | exact c_row rfl rfl rfl | exact c_row rfl rfl (by rw [List.map_append]; first | done | rfl) | exact c_ptr rfl rfl rfl rfl | exact Or.inl ⟨c_sub rfl (Sub.refl _) rfl, c_ptr rfl rfl rfl rfl⟩ | exact c_alt rfl rfl rfl rfl | exact c_ro rfl rfl | exact c_eo rfl rfl | exact c_sub rfl (Sub.altl _ _) rfl | exact c_sub rfl (Sub.nil _) rfl | refine ⟨_, _, rfl, ?_, ?_⟩ | apply And.intro) ⟨c_nil rfl rfl, trivial⟩) ?_
    repeat (first
      | refine awp_ret ?_
      | refine thenA_ret ?_
      | refine retM1 (by first | exact .inl rfl | exact .inr rfl) rfl rfl rfl rfl rfl ?_)
    exact Sub.refl _
  · repeat (first
      | refine awp_seq ?_
      | refine thenA_normal ?_
      | refine a_region ?_
      | refine awp_skip ?_
      | refine r_done ?_
      | (refine r_id ?_; first
        | refine r_ev tab_ok rfl rfl rfl rfl (by first | exact trivial | exact ⟨by omega, by omega⟩ | omega | exact ⟨by omega, by omega, by omega, by omega⟩ | exact Nat.le_of_ble_eq_true rfl) rfl ?_
        | refine r_built0 tab_ok rfl rfl rfl rfl rfl rfl rfl ?_
        | refine r_append tab_ok rfl rfl rfl rfl rfl rfl rfl rfl rfl (by first | omega | (simp; omega)) rfl ?_))
    refine awp_fits (s' := ⟨[.row 0 36 7 (l.map nF)], [(2, .row 0 0)]⟩) (fits_conv (by repeat' first | exact trivial | exact rfl | (rw [List.map_append]; first | done | rfl) | exact c_sub rfl (Sub.refl _) rfl | exact c_nil rfl rfl | exact c_thaw rfl rfl rfl | exact c_row rfl rfl rfl | exact c_row rfl rfl (by rw [List.map_append]; first | done | rfl) | exact c_ptr rfl rfl rfl rfl | exact Or.inl ⟨c_sub rfl (Sub.refl _) rfl, c_ptr rfl rfl rfl rfl⟩ | exact c_alt rfl rfl rfl rfl | exact c_ro rfl rfl | exact c_eo rfl rfl | exact c_sub rfl (Sub.altl _ _) rfl | exact c_sub rfl (Sub.nil _) rfl | refine ⟨_, _, rfl, ?_, ?_⟩ | apply And.intro) ⟨c_row rfl rfl rfl, trivial⟩) ?_
    repeat (first
      | refine awp_ret ?_
      | refine retM1 (by first | exact .inl rfl | exact .inr rfl) rfl rfl rfl rfl rfl ?_)
    exact Sub.refl _
def eqT (c d : Tk) : Bool := decide (c.kind = d.kind) && (decide (c.text = d.text) && (decide (c.int = d.int) && (decide (c.whole = d.whole) && (decide (c.sign = d.sign) && decide (c.id = d.id)))))
theorem eqT_self (c : Tk) : eqT c c = true := by simp [eqT]
theorem eqT_eq {c d : Tk} (h : eqT c d = true) : c = d := by
  cases c; cases d
  simp [eqT] at h
  simp [h]
def tV (c : Tk) : Value := .agg #[.int .i64 c.kind, .string c.text, .int .i64 c.int, .bool c.whole, .bool c.sign, .bool c.id]
theorem tV_of {c : Tk} {M : List AB} {β : Env} {w : World} {imm : Nat → Prop} {v : Value} (h : AVsat M β w imm (tA c) v) : v = tV c := by
  obtain ⟨⟨cs⟩, rfl, _, _, h1, rfl, _, _, h2, rfl, _, _, h3, rfl, _, _, h4, rfl, _, _, h5, rfl, _, _, h6, rfl, h7⟩ := h
  rw [h7] at h6; rw [h6] at h5; rw [h5] at h4; rw [h4] at h3; rw [h3] at h2; rw [h2] at h1
  simp only at h1
  rw [tV, h1]
theorem run_eqT (c d : Tk) (w : World) : (Op.equalIn 10000 34 (tV c) (tV d)).run Try.prog w = .ok (eqT c d) w := by
  have hS : Try.prog.underlying 34 = some (.struct (Try.prog.fieldsOf 34)) := by kernel_rfl
  have hp : Try.prog.stoodInHeld 34 = false := by kernel_rfl
  have us := Try.underlying9
  have ui := Try.underlying3
  have ub := Try.underlying4
  have hps := Try.isAgg9 w
  have hpi := Try.isAgg3 w
  have hpb := Try.isAgg4 w
  rw [show (10000 : Nat) = 9999 + 1 from rfl, tV, tV, run_equalIn_agg w 9999 _ _ _ hS hp]
  simp only [Program.fieldsOf, Try.underlying34, Op.eqFields, part, Sem.run_bind, Sem.run_ite, hps, hpi, hpb, Result.andThen_ok]
  simp [run_equalIn_string w 9998 _ _ _ us, run_equalIn_int w 9998 _ _ _ _ _ ui, run_equalIn_bool' w 9998 _ _ _ ub, ← beq_toListBytes, eqT]
  have hb : (c.text == d.text) = decide (c.text = d.text) := by rw [beq_toListBytes, ByteArray.toList_eq, ByteArray.toList_eq, Bool.eq_iff_iff, beq_iff_eq, decide_eq_true_eq, Array.toList_inj, ByteArray.ext_iff]
  rw [hb]
  by_cases h1 : c.kind = d.kind <;> by_cases h2 : c.text = d.text <;> by_cases h3 : c.int = d.int <;> by_cases h4 : c.whole = d.whole <;> by_cases h5 : c.sign = d.sign <;> by_cases h6 : c.id = d.id <;> simp [h1, h2, h3, h4, h5, h6]
section
variable {o : Oper} {M : List AB} {ρ : Operand → AV}
theorem astep_neqT {u : TypeId} {x y : Operand} {c d : Tk} (ho : o.op = .binOp .neq 34 x y u) (hx : ρ x = tA c) (hy : ρ y = tA d) : AStep Try.prog o M ρ M (.val (.bool (!eqT c d))) :=
  .value fun S B β a w _ hs => by
    have h1 := hs x (by simp [ho, Op.operands])
    have h2 := hs y (by simp [ho, Op.operands])
    rw [hx] at h1; rw [hy] at h2
    have h1 := tV_of h1
    have h2 := tV_of h2
    refine ⟨_, ?_, rfl⟩
    have hg : (eqGuard .neq 34 x y (tV c) (tV d)).run Try.prog w = .ok () w := run_eqGuard_agg w _ _ _ _ _ _ (by kernel_rfl)
    have he : (binOp .neq 34 (tV c) (tV d)).run Try.prog w = .ok (.bool (!eqT c d)) w := by
      have := run_neq_struct (P := Try.prog) w 34 #[.int .i64 c.kind, .string c.text, .int .i64 c.int, .bool c.whole, .bool c.sign, .bool c.id] #[.int .i64 d.kind, .string d.text, .int .i64 d.int, .bool d.whole, .bool d.sign, .bool d.id]
      rw [← tV, ← tV, run_eqT] at this
      exact this
    simp only [execOp, ho, h1, h2, Sem.run_bind, hg, he, Result.andThen_ok]
    rfl
theorem astep_eqT {u : TypeId} {x y : Operand} {c d : Tk} (ho : o.op = .binOp .eql 34 x y u) (hx : ρ x = tA c) (hy : ρ y = tA d) : AStep Try.prog o M ρ M (.val (.bool (eqT c d))) :=
  .value fun S B β a w _ hs => by
    have h1 := hs x (by simp [ho, Op.operands])
    have h2 := hs y (by simp [ho, Op.operands])
    rw [hx] at h1; rw [hy] at h2
    have h1 := tV_of h1
    have h2 := tV_of h2
    refine ⟨_, ?_, rfl⟩
    have hg : (eqGuard .eql 34 x y (tV c) (tV d)).run Try.prog w = .ok () w := run_eqGuard_agg w _ _ _ _ _ _ (by kernel_rfl)
    have he : (binOp .eql 34 (tV c) (tV d)).run Try.prog w = .ok (.bool (eqT c d)) w := by
      have := run_eql_struct (P := Try.prog) w 34 #[.int .i64 c.kind, .string c.text, .int .i64 c.int, .bool c.whole, .bool c.sign, .bool c.id] #[.int .i64 d.kind, .string d.text, .int .i64 d.int, .bool d.whole, .bool d.sign, .bool d.id]
      rw [← tV, ← tV, run_eqT] at this
      exact this
    simp only [execOp, ho, h1, h2, Sem.run_bind, hg, he, Result.andThen_ok]
    rfl
variable {ops : Array Oper} {N : Nat} {K : AS → Prop} {r : List Oper} {fo fo' : Option (List Nat)} {F : List (Nat × AV)} {dt : Tmp}
theorem r_neqT {u : TypeId} {x y : Operand} {c d : Tk} (hg : o.guard = none) (ho : o.op = .binOp .neq 34 x y u) (hx : aval (look F) x = tA c) (hy : aval (look F) y = tA d) (hdd : o.dst = some dt) (hd : dstB o.dst N = true) (hp : popF fo 1 = some fo')
    (k : RunX Try.prog ops N K r fo' M ((dt, .val (.bool (!eqT c d))) :: F)) : RunX Try.prog ops N K (o :: r) fo M F :=
  RunX.mk (fun _ k => Run.quiet hd (StepG.plain hg (astep_neqT ho hx hy)) (by rw [put_eq hdd]; exact k)) hp k
theorem r_eqT {u : TypeId} {x y : Operand} {c d : Tk} (hg : o.guard = none) (ho : o.op = .binOp .eql 34 x y u) (hx : aval (look F) x = tA c) (hy : aval (look F) y = tA d) (hdd : o.dst = some dt) (hd : dstB o.dst N = true) (hp : popF fo 1 = some fo')
    (k : RunX Try.prog ops N K r fo' M ((dt, .val (.bool (eqT c d))) :: F)) : RunX Try.prog ops N K (o :: r) fo M F :=
  RunX.mk (fun _ k => Run.quiet hd (StepG.plain hg (astep_eqT ho hx hy)) (by rw [put_eq hdd]; exact k)) hp k
end
end Go.Proofs.Ytogjmafjoliimaa

/- nest: Copy, Deep. -/
namespace Go.Proofs.Ytogjmafjoliimaa
open Go Go.RowKit

set_option maxHeartbeats 1000000 in
theorem copy_ok (n : Nat) : ∀ l : List Nd, nszs l < n → n ≤ 1099511627776 → PCalls Try.prog 25 [.sl 7 (l.map nF)] (.sl 7 (l.map nF)) := by
  induction n with
  | zero => intro l h; omega
  | succ n ih =>
    intro l hn hb
    refine p_start Try.func25 Try.ntmps25 rfl rfl rfl fun S w => ?_
    have hll := nszs_len l
    have hlm : (l.map nF).length = l.length := List.length_map _
    repeat (first
      | refine awp_seq ?_
      | refine a_region ?_
      | refine r_done ?_
      | (refine r_id ?_; first
        | refine r_ev tab_ok rfl rfl rfl rfl (by first | exact trivial | exact ⟨by omega, by omega⟩ | omega | exact ⟨by omega, by omega, by omega, by omega⟩ | exact Nat.le_of_ble_eq_true rfl) rfl ?_))
    refine r_rcall (cloneN_ok l (by omega)) call30 rfl rfl ⟨Sub.refl _, trivial⟩ rfl rfl rfl rfl rfl rfl ?_
    repeat (first
      | refine awp_seq ?_
      | refine thenA_normal ?_
      | refine awp_block ?_
      | refine a_region ?_
      | refine r_done ?_
      | (refine r_id ?_; first
        | refine r_ev tab_ok rfl rfl rfl rfl (by first | exact trivial | exact ⟨by omega, by omega⟩ | omega | exact ⟨by omega, by omega, by omega, by omega⟩ | exact Nat.le_of_ble_eq_true rfl) rfl ?_
        | refine r_ld tab_ok rfl rfl rfl rfl rfl ?_))
    refine a_loop (σ := {i : Nat // i ≤ l.length}) (fun x => [.row 0 36 7 (l.map nF)]) (fun x => [(3, .row 0 0), (7, .row 0 0), (8, .val (.int .i64 l.length)), (9, .val (.int .i64 x.1))]) (fun x => l.length - x.1) ⟨0, Nat.zero_le _⟩ (fits_conv (by repeat' first | exact trivial | exact rfl | (rw [List.map_append]; first | done | rfl) | exact c_sub rfl (Sub.refl _) rfl | exact c_nil rfl rfl | exact c_thaw rfl rfl rfl | exact c_row rfl rfl rfl | exact c_row rfl rfl (by rw [List.map_append]; first | done | rfl) | exact c_ptr rfl rfl rfl rfl | exact Or.inl ⟨c_sub rfl (Sub.refl _) rfl, c_ptr rfl rfl rfl rfl⟩ | exact c_alt rfl rfl rfl rfl | exact c_ro rfl rfl | exact c_eo rfl rfl | exact c_sub rfl (Sub.altl _ _) rfl | exact c_sub rfl (Sub.nil _) rfl | refine ⟨_, _, rfl, ?_, ?_⟩ | apply And.intro) ⟨c_row rfl rfl rfl, c_row rfl rfl rfl, c_sub rfl (Sub.of_eq (by rw [← hlm]; rfl)) rfl, c_sub rfl (Sub.refl _) rfl, trivial⟩) ?_
    rintro ⟨i, hi⟩
    dsimp only
    repeat (first
      | refine awp_seq ?_
      | refine a_region ?_
      | refine r_done ?_
      | (refine r_id ?_; first
        | refine r_ev tab_ok rfl rfl rfl rfl (by first | exact trivial | exact ⟨by omega, by omega⟩ | omega | exact ⟨by omega, by omega, by omega, by omega⟩ | exact Nat.le_of_ble_eq_true rfl) rfl ?_))
    refine awp_cond_p rfl (fun hlt => ?_) (fun hge => ?_)
    · have hlt' : i < l.length := by omega
      have hi' : ((i : Nat) : Int).toNat < l.length := by simp only [Int.toNat_natCast]; exact hlt'
      have hk := nszs_at hlt'
      have ih' : PCalls Try.prog 25 [.sl 7 ((l[((i : Nat) : Int).toNat]'hi').kids.map nD)] (.sl 7 ((l[((i : Nat) : Int).toNat]'hi').kids.map nD)) := by
        rw [nD_fun]
        refine ih _ ?_ (by omega)
        simp only [Int.toNat_natCast]
        omega
      repeat (first
        | refine awp_seq ?_
        | refine thenA_normal ?_
        | refine awp_block ?_
        | refine a_region ?_
        | refine awp_skip ?_
        | refine r_done ?_
        | (refine r_id ?_; first
          | refine r_ev tab_ok rfl rfl rfl rfl (by first | exact trivial | exact ⟨by omega, by omega⟩ | omega | exact ⟨by omega, by omega, by omega, by omega⟩ | exact Nat.le_of_ble_eq_true rfl) rfl ?_
          | refine r_idxr tab_ok rfl rfl rfl rfl rfl rfl rfl rfl (by first | exact ⟨by omega, by omega⟩ | (simp; omega)) rfl ?_
          | refine r_fielde tab_ok rfl rfl rfl rfl rfl rfl rfl rfl ?_
          | refine r_lde tab_ok rfl rfl rfl rfl rfl (by omega) rfl rfl rfl rfl ?_))
      refine r_call ih' call25 rfl rfl ⟨Sub.refl _, trivial⟩ rfl rfl rfl rfl ?_
      repeat (first
        | (refine r_id ?_; first
          | refine r_idxr tab_ok rfl rfl rfl rfl rfl rfl rfl rfl (by first | exact ⟨by omega, by omega⟩ | (simp; omega)) rfl ?_
          | refine r_fielde tab_ok rfl rfl rfl rfl rfl rfl rfl rfl ?_))
      refine r_ste tab_ok (l[((i : Nat) : Int).toNat]'hi') rfl rfl rfl rfl rfl hi' rfl rfl rfl rfl rfl rfl ?_
      rw [List.set_getElem_self]
      repeat (first
        | refine thenA_normal ?_
        | refine a_region ?_
        | refine r_done ?_
        | (refine r_id ?_; first
          | refine r_ev tab_ok rfl rfl rfl rfl (by first | exact trivial | exact ⟨by omega, by omega⟩ | omega | exact ⟨by omega, by omega, by omega, by omega⟩ | exact Nat.le_of_ble_eq_true rfl) rfl ?_))
      exact ⟨⟨i + 1, hlt'⟩, by dsimp only; omega, fits_conv (by repeat' first | exact trivial | exact rfl | (rw [List.map_append]; first | done | rfl) | exact c_sub rfl (Sub.refl _) rfl | exact c_nil rfl rfl | exact c_thaw rfl rfl rfl | exact c_row rfl rfl rfl | exact c_row rfl rfl (by rw [List.map_append]; first | done | rfl) | exact c_ptr rfl rfl rfl rfl | exact Or.inl ⟨c_sub rfl (Sub.refl _) rfl, c_ptr rfl rfl rfl rfl⟩ | exact c_alt rfl rfl rfl rfl | exact c_ro rfl rfl | exact c_eo rfl rfl | exact c_sub rfl (Sub.altl _ _) rfl | exact c_sub rfl (Sub.nil _) rfl | refine ⟨_, _, rfl, ?_, ?_⟩ | apply And.intro) (by repeat' first | exact trivial | exact rfl | (rw [List.map_append]; first | done | rfl) | exact c_sub rfl (Sub.refl _) rfl | exact c_nil rfl rfl | exact c_thaw rfl rfl rfl | exact c_row rfl rfl rfl | exact c_row rfl rfl (by rw [List.map_append]; first | done | rfl) | exact c_ptr rfl rfl rfl rfl | exact Or.inl ⟨c_sub rfl (Sub.refl _) rfl, c_ptr rfl rfl rfl rfl⟩ | exact c_alt rfl rfl rfl rfl | exact c_ro rfl rfl | exact c_eo rfl rfl | exact c_sub rfl (Sub.altl _ _) rfl | exact c_sub rfl (Sub.nil _) rfl | refine ⟨_, _, rfl, ?_, ?_⟩ | apply And.intro)⟩
    · repeat (first
        | refine awp_seq ?_
        | refine thenA_normal ?_
        | refine a_region ?_
        | refine awp_ret ?_
        | refine awp_exit ?_
        | refine r_done ?_
        | (refine r_id ?_; first
          | refine r_ev tab_ok rfl rfl rfl rfl (by first | exact trivial | exact ⟨by omega, by omega⟩ | omega | exact ⟨by omega, by omega, by omega, by omega⟩ | exact Nat.le_of_ble_eq_true rfl) rfl ?_)
        | refine ret1_row (by first | exact .inl rfl | exact .inr rfl) rfl rfl rfl ?_)
      exact Sub.refl _
mutual
def deepN : Nd → Nat
  | .mk _ k => 1 + deepF k
def deepF : List Nd → Nat
  | [] => 0
  | n :: r => max (deepN n) (deepF r)
end
theorem deepN_eq (n : Nd) : deepN n = 1 + deepF n.kids := by cases n; rw [deepN]; rfl
mutual
theorem deepN_le : ∀ n : Nd, deepN n ≤ nsz n
  | .mk _ k => by
    have := deepF_le k
    rw [deepN, nsz]
    omega
theorem deepF_le : ∀ l : List Nd, deepF l ≤ nszs l
  | [] => Nat.le_refl _
  | n :: r => by
    have := deepN_le n
    have := deepF_le r
    rw [deepF, nszs]
    omega
end
theorem deepF_snoc (l : List Nd) (n : Nd) : deepF (l ++ [n]) = max (deepF l) (deepN n) := by
  induction l with
  | nil => simp [deepF]
  | cons m r ih => rw [List.cons_append, deepF, ih, deepF]; omega
theorem deepF_take {l : List Nd} {i : Nat} (h : i < l.length) : deepF (l.take (i + 1)) = max (deepF (l.take i)) (1 + deepF l[i].kids) := by
  rw [List.take_succ_eq_append_getElem h, deepF_snoc, deepN_eq]
theorem nszs_take : ∀ (l : List Nd) (i : Nat), nszs (l.take i) ≤ nszs l
  | [], i => by rw [List.take_nil]; exact Nat.le_refl _
  | n :: r, 0 => Nat.zero_le _
  | n :: r, i + 1 => by
    have := nszs_take r i
    rw [List.take_succ_cons, nszs, nszs]
    omega
set_option maxHeartbeats 1000000 in
theorem deep_ok (n : Nat) : ∀ l : List Nd, nszs l < n → n ≤ 1099511627776 → PCalls Try.prog 11 [.sl 7 (l.map nF)] (.val (.int .i64 (deepF l))) := by
  induction n with
  | zero => intro l h; omega
  | succ n ih =>
    intro l hn hb
    refine p_start Try.func11 Try.ntmps11 rfl rfl rfl fun S w => ?_
    have hll := nszs_len l
    have hlm : (l.map nF).length = l.length := List.length_map _
    repeat (first
      | refine awp_seq ?_
      | refine thenA_normal ?_
      | refine awp_block ?_
      | refine a_region ?_
      | refine r_done ?_
      | (refine r_id ?_; first
        | refine r_len tab_ok rfl rfl rfl rfl rfl rfl rfl ?_
        | refine r_ev tab_ok rfl rfl rfl rfl (by first | exact trivial | exact ⟨by omega, by omega⟩ | omega | exact ⟨by omega, by omega, by omega, by omega⟩ | exact Nat.le_of_ble_eq_true rfl) rfl ?_))
    refine a_loop (σ := {i : Nat // i ≤ l.length}) (fun x => []) (fun x => [(3, .val (.int .i64 (deepF (l.take x.1)))), (6, .sl 7 (l.map nF)), (7, .val (.int .i64 l.length)), (8, .val (.int .i64 x.1))]) (fun x => l.length - x.1) ⟨0, Nat.zero_le _⟩ (fits_conv (by repeat' first | exact trivial | exact rfl | (rw [List.map_append]; first | done | rfl) | exact c_sub rfl (Sub.refl _) rfl | exact c_nil rfl rfl | exact c_thaw rfl rfl rfl | exact c_row rfl rfl rfl | exact c_row rfl rfl (by rw [List.map_append]; first | done | rfl) | exact c_ptr rfl rfl rfl rfl | exact Or.inl ⟨c_sub rfl (Sub.refl _) rfl, c_ptr rfl rfl rfl rfl⟩ | exact c_alt rfl rfl rfl rfl | exact c_ro rfl rfl | exact c_eo rfl rfl | exact c_sub rfl (Sub.altl _ _) rfl | exact c_sub rfl (Sub.nil _) rfl | refine ⟨_, _, rfl, ?_, ?_⟩ | apply And.intro) (by repeat' first | exact trivial | exact rfl | (rw [List.map_append]; first | done | rfl) | exact c_sub rfl (Sub.refl _) rfl | exact c_nil rfl rfl | exact c_thaw rfl rfl rfl | exact c_row rfl rfl rfl | exact c_row rfl rfl (by rw [List.map_append]; first | done | rfl) | exact c_ptr rfl rfl rfl rfl | exact Or.inl ⟨c_sub rfl (Sub.refl _) rfl, c_ptr rfl rfl rfl rfl⟩ | exact c_alt rfl rfl rfl rfl | exact c_ro rfl rfl | exact c_eo rfl rfl | exact c_sub rfl (Sub.altl _ _) rfl | exact c_sub rfl (Sub.nil _) rfl | refine ⟨_, _, rfl, ?_, ?_⟩ | apply And.intro)) ?_
    rintro ⟨i, hi⟩
    dsimp only
    have hdt := deepF_le (l.take i)
    have hnt := nszs_take l i
    repeat (first
      | refine awp_seq ?_
      | refine a_region ?_
      | refine r_done ?_
      | (refine r_id ?_; first
        | refine r_ev tab_ok rfl rfl rfl rfl (by first | exact trivial | exact ⟨by omega, by omega⟩ | omega | exact ⟨by omega, by omega, by omega, by omega⟩ | exact Nat.le_of_ble_eq_true rfl) rfl ?_))
    refine awp_cond_p rfl (fun hlt => ?_) (fun hge => ?_)
    · have hlt' : i < l.length := by omega
      have hi' : ((i : Nat) : Int).toNat < l.length := by simp only [Int.toNat_natCast]; exact hlt'
      have hk := nszs_at hlt'
      have hdk := deepF_le l[i].kids
      have ih' : PCalls Try.prog 11 [.sl 7 ((l[((i : Nat) : Int).toNat]'hi').kids.map nD)] (.val (.int .i64 (deepF l[i].kids))) := by
        rw [nD_fun]
        simp only [Int.toNat_natCast]
        exact ih _ (by omega) (by omega)
      have em : (max (deepF (l.take i) : Int) (1 + (deepF l[i].kids : Int))) = ((deepF (l.take (i + 1)) : Nat) : Int) := by rw [deepF_take hlt']; omega
      repeat (first
        | refine awp_seq ?_
        | refine thenA_normal ?_
        | refine awp_block ?_
        | refine a_region ?_
        | refine awp_skip ?_
        | refine r_done ?_
        | (refine r_id ?_; first
          | refine r_ev tab_ok rfl rfl rfl rfl (by first | exact trivial | exact ⟨by omega, by omega⟩ | omega | exact ⟨by omega, by omega, by omega, by omega⟩ | exact Nat.le_of_ble_eq_true rfl) rfl ?_
          | refine r_ld tab_ok rfl rfl rfl rfl rfl ?_
          | refine r_idx tab_ok rfl rfl rfl rfl rfl rfl rfl (by first | exact ⟨by omega, by omega⟩ | (simp; omega)) rfl rfl ?_
          | refine r_wr tab_ok rfl rfl rfl rfl rfl ?_
          | refine r_st tab_ok rfl rfl rfl rfl ?_))
      refine r_call ih' call11 rfl rfl ⟨Sub.refl _, trivial⟩ rfl rfl rfl rfl ?_
      repeat (first
        | refine thenA_normal ?_
        | refine a_region ?_
        | refine r_done ?_
        | (refine r_id ?_; first
          | refine r_ev tab_ok rfl rfl rfl rfl (by first | exact trivial | exact ⟨by omega, by omega⟩ | omega | exact ⟨by omega, by omega, by omega, by omega⟩ | exact Nat.le_of_ble_eq_true rfl) rfl ?_))
      rw [em]
      refine ⟨⟨i + 1, hlt'⟩, by dsimp only; omega, ?_⟩
      dsimp only
      exact fits_drop 0 rfl rfl ⟨⟨rfl, Sub.refl _⟩, ⟨rfl, Sub.refl _⟩, ⟨rfl, Sub.refl _⟩, ⟨rfl, Sub.refl _⟩, trivial⟩
    · have e : l.take i = l := List.take_of_length_le (by omega)
      rw [e]
      repeat (first
        | refine awp_seq ?_
        | refine thenA_normal ?_
        | refine a_region ?_
        | refine awp_ret ?_
        | refine awp_exit ?_
        | refine r_done ?_
        | (refine r_id ?_; first
          | refine r_ev tab_ok rfl rfl rfl rfl (by first | exact trivial | exact ⟨by omega, by omega⟩ | omega | exact ⟨by omega, by omega, by omega, by omega⟩ | exact Nat.le_of_ble_eq_true rfl) rfl ?_)
        | refine ret1 (by first | exact .inl rfl | exact .inr rfl) rfl rfl rfl ?_)
      exact Sub.refl _
end Go.Proofs.Ytogjmafjoliimaa

/- nest: Same, the document's and the program's. -/
namespace Go.Proofs.Ytogjmafjoliimaa
open Go Go.RowKit

mutual
def sameN : Nd → Nd → Bool
  | .mk t k, .mk u j => eqT t u && sameL k j
def sameL : List Nd → List Nd → Bool
  | [], [] => true
  | a :: r, b :: s => sameN a b && sameL r s
  | [], _ :: _ => false
  | _ :: _, [] => false
end
mutual
theorem sameN_self : ∀ a : Nd, sameN a a = true
  | .mk t k => by rw [sameN, eqT_self, sameL_self k]; rfl
theorem sameL_self : ∀ l : List Nd, sameL l l = true
  | [] => rfl
  | a :: r => by rw [sameL, sameN_self a, sameL_self r]; rfl
end
mutual
theorem sameN_eq : ∀ a b : Nd, sameN a b = true → a = b
  | .mk t k, .mk u j, h => by
    rw [sameN, Bool.and_eq_true] at h
    rw [eqT_eq h.1, sameL_eq k j h.2]
theorem sameL_eq : ∀ l m : List Nd, sameL l m = true → l = m
  | [], [], _ => rfl
  | a :: r, b :: s, h => by
    rw [sameL, Bool.and_eq_true] at h
    rw [sameN_eq a b h.1, sameL_eq r s h.2]
  | [], _ :: _, h => by rw [sameL] at h; cases h
  | _ :: _, [], h => by rw [sameL] at h; cases h
end
theorem sameN_of (a b : Nd) : sameN a b = (eqT a.tok b.tok && sameL a.kids b.kids) := by
  cases a; cases b
  rw [sameN]
  rfl
theorem sameL_no {l m : List Nd} (h : l ≠ m) : sameL l m = false := by
  cases e : sameL l m with
  | false => rfl
  | true => exact absurd (sameL_eq l m e) h
set_option maxHeartbeats 2000000 in
theorem refSame_ok (n : Nat) : ∀ l m : List Nd, nszs l < n → n ≤ 1099511627776 → PCalls Try.prog 14 [.sl 7 (l.map nF), .sl 7 (m.map nF)] (.val (.bool (sameL l m))) := by
  induction n with
  | zero => intro l m h; omega
  | succ n ih =>
    intro l m hn hb
    refine p_start Try.func14 Try.ntmps14 rfl rfl rfl fun S w => ?_
    have hll := nszs_len l
    have hlm : (l.map nF).length = l.length := List.length_map _
    have hmm : (m.map nF).length = m.length := List.length_map _
    repeat (first
      | refine awp_seq ?_
      | refine thenA_normal ?_
      | refine a_region ?_
      | refine r_done ?_
      | (refine r_id ?_; first
        | refine r_len tab_ok rfl rfl rfl rfl rfl rfl rfl ?_
        | refine r_ev tab_ok rfl rfl rfl rfl (by first | exact trivial | exact ⟨by omega, by omega⟩ | omega | exact ⟨by omega, by omega, by omega, by omega⟩ | exact Nat.le_of_ble_eq_true rfl) rfl ?_))
    refine awp_cond rfl (fun h => ?_) (fun h => ?_)
    · have hne : l ≠ m := by
        rintro rfl
        simp at h
      rw [sameL_no hne]
      repeat (first
        | refine awp_seq ?_
        | refine thenA_normal ?_
        | refine a_region ?_
        | refine awp_ret ?_
        | refine thenA_ret ?_
        | refine r_done ?_
        | (refine r_id ?_; first
          | refine r_ev tab_ok rfl rfl rfl rfl (by first | exact trivial | exact ⟨by omega, by omega⟩ | omega | exact ⟨by omega, by omega, by omega, by omega⟩ | exact Nat.le_of_ble_eq_true rfl) rfl ?_)
        | refine ret1 (by first | exact .inl rfl | exact .inr rfl) rfl rfl rfl ?_)
      exact Sub.refl _
    have hlen : l.length = m.length := by simp at h; omega
    repeat (first
      | refine awp_seq ?_
      | refine thenA_normal ?_
      | refine awp_block ?_
      | refine a_region ?_
      | refine awp_skip ?_
      | refine r_done ?_
      | (refine r_id ?_; first
        | refine r_ev tab_ok rfl rfl rfl rfl (by first | exact trivial | exact ⟨by omega, by omega⟩ | omega | exact ⟨by omega, by omega, by omega, by omega⟩ | exact Nat.le_of_ble_eq_true rfl) rfl ?_))
    refine a_loop (σ := {i : Nat // i ≤ l.length ∧ l.take i = m.take i}) (fun _ => []) (fun x => [(0, .sl 7 (l.map nF)), (1, .sl 7 (m.map nF)), (5, .val (.int .i64 x.1))]) (fun x => l.length - x.1) ⟨0, Nat.zero_le _, rfl⟩ (fits_conv (by repeat' first | exact trivial | exact rfl | (rw [List.map_append]; first | done | rfl) | exact c_sub rfl (Sub.refl _) rfl | exact c_nil rfl rfl | exact c_thaw rfl rfl rfl | exact c_row rfl rfl rfl | exact c_row rfl rfl (by rw [List.map_append]; first | done | rfl) | exact c_ptr rfl rfl rfl rfl | exact Or.inl ⟨c_sub rfl (Sub.refl _) rfl, c_ptr rfl rfl rfl rfl⟩ | exact c_alt rfl rfl rfl rfl | exact c_ro rfl rfl | exact c_eo rfl rfl | exact c_sub rfl (Sub.altl _ _) rfl | exact c_sub rfl (Sub.nil _) rfl | refine ⟨_, _, rfl, ?_, ?_⟩ | apply And.intro) (by repeat' first | exact trivial | exact rfl | (rw [List.map_append]; first | done | rfl) | exact c_sub rfl (Sub.refl _) rfl | exact c_nil rfl rfl | exact c_thaw rfl rfl rfl | exact c_row rfl rfl rfl | exact c_row rfl rfl (by rw [List.map_append]; first | done | rfl) | exact c_ptr rfl rfl rfl rfl | exact Or.inl ⟨c_sub rfl (Sub.refl _) rfl, c_ptr rfl rfl rfl rfl⟩ | exact c_alt rfl rfl rfl rfl | exact c_ro rfl rfl | exact c_eo rfl rfl | exact c_sub rfl (Sub.altl _ _) rfl | exact c_sub rfl (Sub.nil _) rfl | refine ⟨_, _, rfl, ?_, ?_⟩ | apply And.intro)) ?_
    rintro ⟨i, hi, hte⟩
    dsimp only
    repeat (first
      | refine awp_seq ?_
      | refine thenA_normal ?_
      | refine a_region ?_
      | refine r_done ?_
      | (refine r_id ?_; first
        | refine r_len tab_ok rfl rfl rfl rfl rfl rfl rfl ?_
        | refine r_ev tab_ok rfl rfl rfl rfl (by first | exact trivial | exact ⟨by omega, by omega⟩ | omega | exact ⟨by omega, by omega, by omega, by omega⟩ | exact Nat.le_of_ble_eq_true rfl) rfl ?_))
    refine awp_cond_p rfl (fun hlt => ?_) (fun hge => ?_)
    · have hlt' : i < l.length := by omega
      have hi' : ((i : Nat) : Int).toNat < l.length := by simp only [Int.toNat_natCast]; exact hlt'
      have him' : ((i : Nat) : Int).toNat < m.length := by omega
      have hk := nszs_at hlt'
      have ih' : PCalls Try.prog 14 [.sl 7 ((l[((i : Nat) : Int).toNat]'hi').kids.map nD), .sl 7 ((m[((i : Nat) : Int).toNat]'him').kids.map nD)] (.val (.bool (sameL (l[((i : Nat) : Int).toNat]'hi').kids (m[((i : Nat) : Int).toNat]'him').kids))) := by
        rw [nD_fun]
        exact ih _ _ (by simp only [Int.toNat_natCast]; omega) (by omega)
      repeat (first
        | refine awp_seq ?_
        | refine awp_block ?_
        | refine a_draw1 mixed_ok (by kernel_rfl) ?_
        | refine awp_skip ?_
        | (refine r_id ?_; first
          | refine r_ev tab_ok rfl rfl rfl rfl (by first | exact trivial | exact ⟨by omega, by omega⟩ | omega | exact ⟨by omega, by omega, by omega, by omega⟩ | exact Nat.le_of_ble_eq_true rfl) rfl ?_
          | refine r_idx tab_ok rfl rfl rfl rfl rfl rfl rfl (by first | exact ⟨by omega, by omega⟩ | (simp; omega)) rfl rfl ?_))
      refine r_neqT (c := (l[((i : Nat) : Int).toNat]'hi').tok) (d := (m[((i : Nat) : Int).toNat]'him').tok) rfl rfl rfl rfl rfl rfl rfl ?_
      repeat (first
        | (refine r_id ?_; first
          | refine r_ev tab_ok rfl rfl rfl rfl (by first | exact trivial | exact ⟨by omega, by omega⟩ | omega | exact ⟨by omega, by omega, by omega, by omega⟩ | exact Nat.le_of_ble_eq_true rfl) rfl ?_
          | refine r_ev_cnd tab_ok rfl rfl rfl rfl rfl rfl (by first | exact fun _ => rfl | exact cs1 | exact cs2 | exact cs3) (by first | exact fun _ => trivial | (intro h; simp at h; first | exact ⟨by omega, by omega⟩ | omega)) rfl ?_
          | refine r_idx_cnd tab_ok rfl rfl rfl rfl rfl rfl rfl (by first | exact fun _ => rfl | exact cs1 | exact cs2) rfl rfl (by exact ⟨by omega, by omega⟩) rfl rfl ?_))
      refine r_call_cnd (fun _ => ih') call14 rfl rfl rfl rfl (by first | exact fun _ => rfl | exact cs1 | exact cs2 | exact cs3) ⟨Sub.refl _, Sub.refl _, trivial⟩ rfl rfl rfl rfl ?_
      repeat (first
        | refine thenA_normal ?_
        | refine r_done' ?_
        | (refine r_id ?_; first
          | refine r_ev_cnd tab_ok rfl rfl rfl rfl rfl rfl (by first | exact fun _ => rfl | exact cs1 | exact cs2 | exact cs3) (by first | exact fun _ => trivial | (intro h; simp at h; first | exact ⟨by omega, by omega⟩ | omega)) rfl ?_
          | refine r_or rfl rfl rfl rfl rfl rfl rfl rfl ?_))
      have hs := sameN_of (l[((i : Nat) : Int).toNat]'hi') (m[((i : Nat) : Int).toNat]'him')
      refine awp_cond rfl (fun h2 => ?_) (fun h2 => ?_)
      · have h3 : sameN (l[((i : Nat) : Int).toNat]'hi') (m[((i : Nat) : Int).toNat]'him') = false := by
          rw [hs]
          revert h2
          cases eqT (l[((i : Nat) : Int).toNat]'hi').tok (m[((i : Nat) : Int).toNat]'him').tok <;> cases sameL (l[((i : Nat) : Int).toNat]'hi').kids (m[((i : Nat) : Int).toNat]'him').kids <;> simp
        have hne : l ≠ m := by
          rintro rfl
          rw [sameN_self] at h3
          cases h3
        rw [sameL_no hne]
        repeat (first
          | refine awp_seq ?_
          | refine thenA_normal ?_
          | refine a_region ?_
          | refine awp_ret ?_
          | refine thenA_ret ?_
          | refine blockA_ret ?_
          | refine r_done ?_
          | (refine r_id ?_; first
            | refine r_ev tab_ok rfl rfl rfl rfl (by first | exact trivial | exact ⟨by omega, by omega⟩ | omega | exact ⟨by omega, by omega, by omega, by omega⟩ | exact Nat.le_of_ble_eq_true rfl) rfl ?_)
          | refine ret1 (by first | exact .inl rfl | exact .inr rfl) rfl rfl rfl ?_)
        exact Sub.refl _
      · have h3 : sameN (l[((i : Nat) : Int).toNat]'hi') (m[((i : Nat) : Int).toNat]'him') = true := by
          rw [hs]
          revert h2
          cases eqT (l[((i : Nat) : Int).toNat]'hi').tok (m[((i : Nat) : Int).toNat]'him').tok <;> cases sameL (l[((i : Nat) : Int).toNat]'hi').kids (m[((i : Nat) : Int).toNat]'him').kids <;> simp
        have h4 := sameN_eq _ _ h3
        simp only [Int.toNat_natCast] at h4
        repeat (first
          | refine thenA_normal ?_
          | refine a_region ?_
          | refine awp_skip ?_
          | refine r_done ?_
          | (refine r_id ?_; first
            | refine r_ev tab_ok rfl rfl rfl rfl (by first | exact trivial | exact ⟨by omega, by omega⟩ | omega | exact ⟨by omega, by omega, by omega, by omega⟩ | exact Nat.le_of_ble_eq_true rfl) rfl ?_))
        exact ⟨⟨i + 1, hlt', by rw [List.take_succ_eq_append_getElem hlt', List.take_succ_eq_append_getElem (by omega), hte, h4]⟩, by dsimp only; omega, fits_conv (by repeat' first | exact trivial | exact rfl | (rw [List.map_append]; first | done | rfl) | exact c_sub rfl (Sub.refl _) rfl | exact c_nil rfl rfl | exact c_thaw rfl rfl rfl | exact c_row rfl rfl rfl | exact c_row rfl rfl (by rw [List.map_append]; first | done | rfl) | exact c_ptr rfl rfl rfl rfl | exact Or.inl ⟨c_sub rfl (Sub.refl _) rfl, c_ptr rfl rfl rfl rfl⟩ | exact c_alt rfl rfl rfl rfl | exact c_ro rfl rfl | exact c_eo rfl rfl | exact c_sub rfl (Sub.altl _ _) rfl | exact c_sub rfl (Sub.nil _) rfl | refine ⟨_, _, rfl, ?_, ?_⟩ | apply And.intro) (by repeat' first | exact trivial | exact rfl | (rw [List.map_append]; first | done | rfl) | exact c_sub rfl (Sub.refl _) rfl | exact c_nil rfl rfl | exact c_thaw rfl rfl rfl | exact c_row rfl rfl rfl | exact c_row rfl rfl (by rw [List.map_append]; first | done | rfl) | exact c_ptr rfl rfl rfl rfl | exact Or.inl ⟨c_sub rfl (Sub.refl _) rfl, c_ptr rfl rfl rfl rfl⟩ | exact c_alt rfl rfl rfl rfl | exact c_ro rfl rfl | exact c_eo rfl rfl | exact c_sub rfl (Sub.altl _ _) rfl | exact c_sub rfl (Sub.nil _) rfl | refine ⟨_, _, rfl, ?_, ?_⟩ | apply And.intro)⟩
    · have e1 : l.take i = l := List.take_of_length_le (by omega)
      have e2 : m.take i = m := List.take_of_length_le (by omega)
      rw [e1, e2] at hte
      subst hte
      rw [sameL_self]
      repeat (first
        | refine awp_seq ?_
        | refine thenA_normal ?_
        | refine a_region ?_
        | refine awp_ret ?_
        | refine awp_exit ?_
        | refine r_done ?_
        | (refine r_id ?_; first
          | refine r_ev tab_ok rfl rfl rfl rfl (by first | exact trivial | exact ⟨by omega, by omega⟩ | omega | exact ⟨by omega, by omega, by omega, by omega⟩ | exact Nat.le_of_ble_eq_true rfl) rfl ?_)
        | refine ret1 (by first | exact .inl rfl | exact .inr rfl) rfl rfl rfl ?_)
      exact Sub.refl _
end Go.Proofs.Ytogjmafjoliimaa

/- nest: the program's Same. -/
namespace Go.Proofs.Ytogjmafjoliimaa
open Go Go.RowKit

set_option maxHeartbeats 2000000 in
theorem eqf_ok (l m : List Nd) (f : FuncId) (hl : l.length ≤ 1099511627776) (hcall : Callable Try.prog f) (hp : ∀ a ∈ l, ∀ b, PCalls Try.prog f [nA a, nA b] (.val (.bool (sameN a b)))) :
    PCalls Try.prog 23 [.sl 7 (l.map nF), .sl 7 (m.map nF), .cl f []] (.val (.bool (sameL l m))) := by
  refine p_start Try.func23 Try.ntmps23 rfl rfl rfl fun S w => ?_
  have hlm : (l.map nF).length = l.length := List.length_map _
  have hmm : (m.map nF).length = m.length := List.length_map _
  repeat (first
    | refine awp_seq ?_
    | refine thenA_normal ?_
    | refine a_region ?_
    | refine r_done ?_
    | (refine r_id ?_; first
      | refine r_len tab_ok rfl rfl rfl rfl rfl rfl rfl ?_
      | refine r_ev tab_ok rfl rfl rfl rfl (by first | exact trivial | exact ⟨by omega, by omega⟩ | omega | exact ⟨by omega, by omega, by omega, by omega⟩ | exact Nat.le_of_ble_eq_true rfl) rfl ?_))
  refine awp_cond rfl (fun h => ?_) (fun h => ?_)
  · have hne : l ≠ m := by
      rintro rfl
      simp at h
    rw [sameL_no hne]
    repeat (first
      | refine awp_seq ?_
      | refine thenA_normal ?_
      | refine a_region ?_
      | refine awp_ret ?_
      | refine thenA_ret ?_
      | refine r_done ?_
      | (refine r_id ?_; first
        | refine r_ev tab_ok rfl rfl rfl rfl (by first | exact trivial | exact ⟨by omega, by omega⟩ | omega | exact ⟨by omega, by omega, by omega, by omega⟩ | exact Nat.le_of_ble_eq_true rfl) rfl ?_)
      | refine ret1 (by first | exact .inl rfl | exact .inr rfl) rfl rfl rfl ?_)
    exact Sub.refl _
  have hlen : l.length = m.length := by simp at h; omega
  repeat (first
    | refine awp_seq ?_
    | refine thenA_normal ?_
    | refine awp_block ?_
    | refine a_region ?_
    | refine awp_skip ?_
    | refine r_done ?_
    | (refine r_id ?_; first
      | refine r_len tab_ok rfl rfl rfl rfl rfl rfl rfl ?_
      | refine r_ev tab_ok rfl rfl rfl rfl (by first | exact trivial | exact ⟨by omega, by omega⟩ | omega | exact ⟨by omega, by omega, by omega, by omega⟩ | exact Nat.le_of_ble_eq_true rfl) rfl ?_))
  refine a_loop (σ := {i : Nat // i ≤ l.length ∧ l.take i = m.take i}) (fun _ => []) (fun x => [(1, .sl 7 (m.map nF)), (2, .cl f []), (15, .sl 7 (l.map nF)), (16, .val (.int .i64 l.length)), (17, .val (.int .i64 x.1))]) (fun x => l.length - x.1) ⟨0, Nat.zero_le _, rfl⟩ (fits_conv (by repeat' first | exact trivial | exact rfl | (rw [List.map_append]; first | done | rfl) | exact c_sub rfl (Sub.refl _) rfl | exact c_nil rfl rfl | exact c_thaw rfl rfl rfl | exact c_row rfl rfl rfl | exact c_row rfl rfl (by rw [List.map_append]; first | done | rfl) | exact c_ptr rfl rfl rfl rfl | exact Or.inl ⟨c_sub rfl (Sub.refl _) rfl, c_ptr rfl rfl rfl rfl⟩ | exact c_alt rfl rfl rfl rfl | exact c_ro rfl rfl | exact c_eo rfl rfl | exact c_sub rfl (Sub.altl _ _) rfl | exact c_sub rfl (Sub.nil _) rfl | refine ⟨_, _, rfl, ?_, ?_⟩ | apply And.intro) (by repeat' first | exact trivial | exact rfl | (rw [List.map_append]; first | done | rfl) | exact c_sub rfl (Sub.refl _) rfl | exact c_nil rfl rfl | exact c_thaw rfl rfl rfl | exact c_row rfl rfl rfl | exact c_row rfl rfl (by rw [List.map_append]; first | done | rfl) | exact c_ptr rfl rfl rfl rfl | exact Or.inl ⟨c_sub rfl (Sub.refl _) rfl, c_ptr rfl rfl rfl rfl⟩ | exact c_alt rfl rfl rfl rfl | exact c_ro rfl rfl | exact c_eo rfl rfl | exact c_sub rfl (Sub.altl _ _) rfl | exact c_sub rfl (Sub.nil _) rfl | refine ⟨_, _, rfl, ?_, ?_⟩ | apply And.intro)) ?_
  rintro ⟨i, hi, hte⟩
  dsimp only
  repeat (first
    | refine awp_seq ?_
    | refine a_region ?_
    | refine r_done ?_
    | (refine r_id ?_; first
      | refine r_ev tab_ok rfl rfl rfl rfl (by first | exact trivial | exact ⟨by omega, by omega⟩ | omega | exact ⟨by omega, by omega, by omega, by omega⟩ | exact Nat.le_of_ble_eq_true rfl) rfl ?_))
  refine awp_cond_p rfl (fun hlt => ?_) (fun hge => ?_)
  · have hlt' : i < l.length := by omega
    have hi' : ((i : Nat) : Int).toNat < l.length := by simp only [Int.toNat_natCast]; exact hlt'
    have him' : ((i : Nat) : Int).toNat < m.length := by omega
    repeat (first
      | refine awp_seq ?_
      | refine awp_block ?_
      | refine a_region ?_
      | refine awp_skip ?_
      | refine r_done ?_
      | (refine r_id ?_; first
        | refine r_ev tab_ok rfl rfl rfl rfl (by first | exact trivial | exact ⟨by omega, by omega⟩ | omega | exact ⟨by omega, by omega, by omega, by omega⟩ | exact Nat.le_of_ble_eq_true rfl) rfl ?_
        | refine r_ld tab_ok rfl rfl rfl rfl rfl ?_
        | refine r_idx tab_ok rfl rfl rfl rfl rfl rfl rfl (by first | exact ⟨by omega, by omega⟩ | (simp; omega)) rfl rfl ?_
        | refine r_wr tab_ok rfl rfl rfl rfl rfl ?_
        | refine r_st tab_ok rfl rfl rfl rfl ?_))
    refine r_callv (hp (l[((i : Nat) : Int).toNat]'hi') (List.getElem_mem hi') (m[((i : Nat) : Int).toNat]'him')) hcall rfl rfl rfl ⟨Sub.refl _, Sub.refl _, trivial⟩ rfl rfl rfl rfl ?_
    repeat (first
      | refine thenA_normal ?_
      | refine r_done ?_
      | (refine r_id ?_; first
        | refine r_ev tab_ok rfl rfl rfl rfl (by first | exact trivial | exact ⟨by omega, by omega⟩ | omega | exact ⟨by omega, by omega, by omega, by omega⟩ | exact Nat.le_of_ble_eq_true rfl) rfl ?_))
    refine awp_cond rfl (fun h2 => ?_) (fun h2 => ?_)
    · have h3 : sameN (l[((i : Nat) : Int).toNat]'hi') (m[((i : Nat) : Int).toNat]'him') = false := by simpa using h2
      have hne : l ≠ m := by
        rintro rfl
        rw [sameN_self] at h3
        cases h3
      rw [sameL_no hne]
      repeat (first
        | refine awp_seq ?_
        | refine thenA_normal ?_
        | refine a_region ?_
        | refine awp_ret ?_
        | refine thenA_ret ?_
        | refine blockA_ret ?_
        | refine r_done ?_
        | (refine r_id ?_; first
          | refine r_ev tab_ok rfl rfl rfl rfl (by first | exact trivial | exact ⟨by omega, by omega⟩ | omega | exact ⟨by omega, by omega, by omega, by omega⟩ | exact Nat.le_of_ble_eq_true rfl) rfl ?_)
        | refine ret1 (by first | exact .inl rfl | exact .inr rfl) rfl rfl rfl ?_)
      exact Sub.refl _
    · have h3 : sameN (l[((i : Nat) : Int).toNat]'hi') (m[((i : Nat) : Int).toNat]'him') = true := by simpa using h2
      have h4 := sameN_eq _ _ h3
      simp only [Int.toNat_natCast] at h4
      repeat (first
        | refine thenA_normal ?_
        | refine a_region ?_
        | refine awp_skip ?_
        | refine r_done ?_
        | (refine r_id ?_; first
          | refine r_ev tab_ok rfl rfl rfl rfl (by first | exact trivial | exact ⟨by omega, by omega⟩ | omega | exact ⟨by omega, by omega, by omega, by omega⟩ | exact Nat.le_of_ble_eq_true rfl) rfl ?_))
      refine ⟨⟨i + 1, hlt', by rw [List.take_succ_eq_append_getElem hlt', List.take_succ_eq_append_getElem (by omega), hte, h4]⟩, by dsimp only; omega, ?_⟩
      dsimp only
      exact fits_drop 0 rfl rfl ⟨⟨rfl, Sub.refl _⟩, ⟨rfl, Sub.refl _⟩, ⟨rfl, Sub.refl _⟩, ⟨rfl, Sub.refl _⟩, ⟨rfl, Sub.refl _⟩, trivial⟩
  · have e1 : l.take i = l := List.take_of_length_le (by omega)
    have e2 : m.take i = m := List.take_of_length_le (by omega)
    rw [e1, e2] at hte
    subst hte
    rw [sameL_self]
    repeat (first
      | refine awp_seq ?_
      | refine thenA_normal ?_
      | refine a_region ?_
      | refine awp_ret ?_
      | refine awp_exit ?_
      | refine r_done ?_
      | (refine r_id ?_; first
        | refine r_ev tab_ok rfl rfl rfl rfl (by first | exact trivial | exact ⟨by omega, by omega⟩ | omega | exact ⟨by omega, by omega, by omega, by omega⟩ | exact Nat.le_of_ble_eq_true rfl) rfl ?_)
      | refine ret1 (by first | exact .inl rfl | exact .inr rfl) rfl rfl rfl ?_)
    exact Sub.refl _
theorem same_ok (n : Nat) : ∀ l m : List Nd, nszs l < n → n ≤ 1099511627776 → PCalls Try.prog 13 [.sl 7 (l.map nF), .sl 7 (m.map nF)] (.val (.bool (sameL l m))) := by
  induction n with
  | zero => intro l m h; omega
  | succ n ih =>
    intro l m hn hb
    have hll := nszs_len l
    have h1 : ∀ a ∈ l, ∀ b, PCalls Try.prog 24 [nA a, nA b] (.val (.bool (sameN a b))) := by
      intro a ha b
      obtain ⟨i, hi, rfl⟩ := List.getElem_of_mem ha
      have hk := nszs_at hi
      refine p_start Try.func24 Try.ntmps24 rfl rfl rfl fun S w => ?_
      have ih' : PCalls Try.prog 13 [.sl 7 (l[i].kids.map nD), .sl 7 (b.kids.map nD)] (.val (.bool (sameL l[i].kids b.kids))) := by
        rw [nD_fun]
        exact ih _ _ (by omega) (by omega)
      repeat (first
        | refine awp_seq ?_
        | refine a_region ?_
        | refine r_done ?_
        | (refine r_id ?_; first
          | refine r_ev tab_ok rfl rfl rfl rfl (by first | exact trivial | exact ⟨by omega, by omega⟩ | omega | exact ⟨by omega, by omega, by omega, by omega⟩ | exact Nat.le_of_ble_eq_true rfl) rfl ?_
          | refine r_ld tab_ok rfl rfl rfl rfl rfl ?_
          | refine r_wr tab_ok rfl rfl rfl rfl rfl ?_))
      refine r_eqT (c := l[i].tok) (d := b.tok) rfl rfl rfl rfl rfl rfl rfl ?_
      repeat (first
        | (refine r_id ?_; first
          | refine r_ev tab_ok rfl rfl rfl rfl (by first | exact trivial | exact ⟨by omega, by omega⟩ | omega | exact ⟨by omega, by omega, by omega, by omega⟩ | exact Nat.le_of_ble_eq_true rfl) rfl ?_
          | refine r_ev_cnd tab_ok rfl rfl rfl rfl rfl rfl (by first | exact fun _ => rfl | exact cs1 | exact cs2 | exact cs3) (by first | exact fun _ => trivial | (intro h; simp at h; first | exact ⟨by omega, by omega⟩ | omega)) rfl ?_
          | refine r_ld_cnd tab_ok rfl rfl rfl rfl rfl rfl (by first | exact fun _ => rfl | exact cs1 | exact cs2 | exact cs3) rfl ?_))
      refine r_call_cnd (fun _ => ih') call13 rfl rfl rfl rfl (by first | exact fun _ => rfl | exact cs1 | exact cs2 | exact cs3) ⟨Sub.refl _, Sub.refl _, trivial⟩ rfl rfl rfl rfl ?_
      repeat (first
        | refine thenA_normal ?_
        | refine awp_ret ?_
        | refine r_done ?_
        | (refine r_id ?_; first
          | refine r_ev tab_ok rfl rfl rfl rfl (by first | exact trivial | exact ⟨by omega, by omega⟩ | omega | exact ⟨by omega, by omega, by omega, by omega⟩ | exact Nat.le_of_ble_eq_true rfl) rfl ?_
          | refine r_and rfl rfl rfl rfl rfl rfl rfl rfl ?_)
        | refine ret1 (by first | exact .inl rfl | exact .inr rfl) rfl rfl rfl ?_)
      exact Sub.of_eq (by rw [sameN_of])
    refine p_start Try.func13 Try.ntmps13 rfl rfl rfl fun S w => ?_
    repeat (first
      | refine awp_seq ?_
      | refine a_region ?_
      | refine r_done ?_
      | (refine r_id ?_; first
        | refine r_ev tab_ok rfl rfl rfl rfl (by first | exact trivial | exact ⟨by omega, by omega⟩ | omega | exact ⟨by omega, by omega, by omega, by omega⟩ | exact Nat.le_of_ble_eq_true rfl) rfl ?_))
    refine r_call (eqf_ok l m 24 (by omega) call24 h1) call23 rfl rfl ⟨Sub.refl _, Sub.refl _, Sub.refl _, trivial⟩ rfl rfl rfl rfl ?_
    repeat (first
      | refine thenA_normal ?_
      | refine awp_ret ?_
      | refine r_done ?_
      | (refine r_id ?_; first
        | refine r_ev tab_ok rfl rfl rfl rfl (by first | exact trivial | exact ⟨by omega, by omega⟩ | omega | exact ⟨by omega, by omega, by omega, by omega⟩ | exact Nat.le_of_ble_eq_true rfl) rfl ?_)
      | refine ret1 (by first | exact .inl rfl | exact .inr rfl) rfl rfl rfl ?_)
    exact Sub.refl _
end Go.Proofs.Ytogjmafjoliimaa

/- nest: Flat, Trim. -/
namespace Go.Proofs.Ytogjmafjoliimaa
open Go Go.RowKit

mutual
def flatN : Nd → List Tk
  | .mk t k => t :: (if opB t = true then flatF k ++ [tkK 20 (clF t)] else [])
def flatF : List Nd → List Tk
  | [] => []
  | n :: r => flatN n ++ flatF r
end
theorem flatN_eq (n : Nd) : flatN n = n.tok :: (if opB n.tok = true then flatF n.kids ++ [tkK 20 (clF n.tok)] else []) := by cases n; rw [flatN]; rfl
theorem flatF_append (l m : List Nd) : flatF (l ++ m) = flatF l ++ flatF m := by
  induction l with
  | nil => rfl
  | cons n r ih => rw [List.cons_append, flatF, flatF, ih, List.append_assoc]
theorem flatF_take {l : List Nd} {i : Nat} (h : i < l.length) : flatF (l.take (i + 1)) = flatF (l.take i) ++ flatN l[i] := by
  rw [List.take_succ_eq_append_getElem h, flatF_append]
  congr 1
  rw [flatF, flatF, List.append_nil]
mutual
theorem flatN_len : ∀ n : Nd, (flatN n).length ≤ 2 * nsz n
  | .mk t k => by
    have := flatF_len k
    rw [flatN, nsz]
    split
    · rw [List.length_cons, List.length_append, List.length_singleton]; omega
    · rw [List.length_singleton]; omega
theorem flatF_len : ∀ l : List Nd, (flatF l).length ≤ 2 * nszs l
  | [] => Nat.le_refl _
  | n :: r => by
    have := flatN_len n
    have := flatF_len r
    rw [flatF, nszs, List.length_append]
    omega
end
theorem fits_trans {cx : Cx} {s s' s'' : AS} (h : Fits cx s s') (k : Fits cx s' s'') : Fits cx s s'' := fun a w hs => k a w (h a w hs)
set_option maxHeartbeats 2000000 in
theorem flat_ok (n : Nat) : ∀ l : List Nd, nszs l < n → n ≤ 1099511627776 → PCalls Try.prog 12 [.sl 7 (l.map nF)] (.sl 6 ((flatF l).map tD)) := by
  induction n with
  | zero => intro l h; omega
  | succ n ih =>
    intro l hn hb
    refine p_start Try.func12 Try.ntmps12 rfl rfl rfl fun S w => ?_
    have hll := nszs_len l
    have hlm : (l.map nF).length = l.length := List.length_map _
    repeat (first
      | refine awp_seq ?_
      | refine thenA_normal ?_
      | refine awp_block ?_
      | refine a_region ?_
      | refine r_done ?_
      | (refine r_id ?_; first
        | refine r_len tab_ok rfl rfl rfl rfl rfl rfl rfl ?_
        | refine r_ev tab_ok rfl rfl rfl rfl (by first | exact trivial | exact ⟨by omega, by omega⟩ | omega | exact ⟨by omega, by omega, by omega, by omega⟩ | exact Nat.le_of_ble_eq_true rfl) rfl ?_))
    refine a_loop (σ := {i : Nat // i ≤ l.length}) (fun x => [.row 0 34 6 ((flatF (l.take x.1)).map tD)]) (fun x => [(2, .row 0 0), (5, .sl 7 (l.map nF)), (6, .val (.int .i64 l.length)), (7, .val (.int .i64 x.1))]) (fun x => l.length - x.1) ⟨0, Nat.zero_le _⟩ (fits_conv (by repeat' first | exact trivial | exact rfl | (rw [List.map_append]; first | done | rfl) | exact c_sub rfl (Sub.refl _) rfl | exact c_nil rfl rfl | exact c_thaw rfl rfl rfl | exact c_row rfl rfl rfl | exact c_row rfl rfl (by rw [List.map_append]; first | done | rfl) | exact c_ptr rfl rfl rfl rfl | exact Or.inl ⟨c_sub rfl (Sub.refl _) rfl, c_ptr rfl rfl rfl rfl⟩ | exact c_alt rfl rfl rfl rfl | exact c_ro rfl rfl | exact c_eo rfl rfl | exact c_sub rfl (Sub.altl _ _) rfl | exact c_sub rfl (Sub.nil _) rfl | refine ⟨_, _, rfl, ?_, ?_⟩ | apply And.intro) ⟨c_nil rfl rfl, c_sub rfl (Sub.refl _) rfl, c_sub rfl (Sub.refl _) rfl, c_sub rfl (Sub.refl _) rfl, trivial⟩) ?_
    rintro ⟨i, hi⟩
    dsimp only
    repeat (first
      | refine awp_seq ?_
      | refine a_region ?_
      | refine r_done ?_
      | (refine r_id ?_; first
        | refine r_ev tab_ok rfl rfl rfl rfl (by first | exact trivial | exact ⟨by omega, by omega⟩ | omega | exact ⟨by omega, by omega, by omega, by omega⟩ | exact Nat.le_of_ble_eq_true rfl) rfl ?_))
    refine awp_cond_p rfl (fun hlt => ?_) (fun hge => ?_)
    · have hlt' : i < l.length := by omega
      have hi' : ((i : Nat) : Int).toNat < l.length := by simp only [Int.toNat_natCast]; exact hlt'
      have hk := nszs_at hlt'
      have hft := flatF_take hlt'
      have hfn := flatN_eq l[i]
      have hfl := flatF_len (l.take (i + 1))
      have hnt := nszs_take l (i + 1)
      have hl0 : ((flatF (l.take i)).map tD).length = (flatF (l.take i)).length := List.length_map _
      have hlk : ((flatF l[i].kids).map tD).length = (flatF l[i].kids).length := List.length_map _
      have hl1 := congrArg List.length hft
      rw [List.length_append, hfn, List.length_cons] at hl1
      have ih' : PCalls Try.prog 12 [.sl 7 ((l[((i : Nat) : Int).toNat]'hi').kids.map nD)] (.sl 6 ((flatF l[i].kids).map tD)) := by
        rw [nD_fun]
        simp only [Int.toNat_natCast]
        exact ih _ (by omega) (by omega)
      repeat (first
        | refine awp_seq ?_
        | refine awp_block ?_
        | refine a_region ?_
        | refine awp_skip ?_
        | refine r_done ?_
        | (refine r_id ?_; first
          | refine r_ev tab_ok rfl rfl rfl rfl (by first | exact trivial | exact ⟨by omega, by omega⟩ | omega | exact ⟨by omega, by omega, by omega, by omega⟩ | exact Nat.le_of_ble_eq_true rfl) rfl ?_
          | refine r_ld tab_ok rfl rfl rfl rfl rfl ?_
          | refine r_idx tab_ok rfl rfl rfl rfl rfl rfl rfl (by first | exact ⟨by omega, by omega⟩ | (simp; omega)) rfl rfl ?_
          | refine r_wr tab_ok rfl rfl rfl rfl rfl ?_
          | refine r_st tab_ok rfl rfl rfl rfl ?_
          | refine r_built tab_ok rfl rfl rfl rfl rfl rfl rfl rfl rfl ?_
          | refine r_append tab_ok rfl rfl rfl rfl rfl rfl rfl rfl rfl (by first | omega | (simp; omega)) rfl ?_))
      refine r_call (opens_ok (l[((i : Nat) : Int).toNat]'hi').tok) call21 rfl rfl ⟨Sub.refl _, trivial⟩ rfl rfl rfl rfl ?_
      repeat (first
        | refine thenA_normal ?_
        | refine r_done ?_)
      refine awp_cond rfl (fun ho => ?_) (fun ho => ?_)
      · simp only [Int.toNat_natCast] at ho
        rw [if_pos ho] at hfn hl1
        rw [List.length_append, List.length_singleton] at hl1
        have e : (flatF (l.take (i + 1))).map tD = (flatF (l.take i)).map tD ++ [tD l[i].tok] ++ (flatF l[i].kids).map tD ++ [tD (tkK 20 (clF l[i].tok))] := by
          rw [hft, hfn]
          simp
        repeat (first
          | refine awp_seq ?_
          | refine a_region ?_
          | (refine r_id ?_; first
            | refine r_ev tab_ok rfl rfl rfl rfl (by first | exact trivial | exact ⟨by omega, by omega⟩ | omega | exact ⟨by omega, by omega, by omega, by omega⟩ | exact Nat.le_of_ble_eq_true rfl) rfl ?_
            | refine r_ld tab_ok rfl rfl rfl rfl rfl ?_))
        refine r_call ih' call12 rfl rfl ⟨Sub.refl _, trivial⟩ rfl rfl rfl rfl ?_
        repeat (first
          | refine thenA_normal ?_
          | refine a_region ?_
          | refine r_done ?_
          | (refine r_id ?_; first
            | refine r_ev tab_ok rfl rfl rfl rfl (by first | exact trivial | exact ⟨by omega, by omega⟩ | omega | exact ⟨by omega, by omega, by omega, by omega⟩ | exact Nat.le_of_ble_eq_true rfl) rfl ?_
            | refine r_ld tab_ok rfl rfl rfl rfl rfl ?_
            | refine r_append tab_ok rfl rfl rfl rfl rfl rfl rfl rfl rfl (by first | omega | (simp; omega)) rfl ?_))
        refine r_call (closer_ok (l[((i : Nat) : Int).toNat]'hi').tok) call22 rfl rfl ⟨Sub.refl _, trivial⟩ rfl rfl rfl rfl ?_
        repeat (first
          | refine thenA_normal ?_
          | refine a_region ?_
          | refine r_done ?_
          | (refine r_id ?_; first
            | refine r_ev tab_ok rfl rfl rfl rfl (by first | exact trivial | exact ⟨by omega, by omega⟩ | omega | exact ⟨by omega, by omega, by omega, by omega⟩ | exact Nat.le_of_ble_eq_true rfl) rfl ?_
            | refine r_build tab_ok rfl rfl rfl rfl rfl rfl ?_
            | refine r_built tab_ok rfl rfl rfl rfl rfl rfl rfl rfl rfl ?_
            | refine r_append tab_ok rfl rfl rfl rfl rfl rfl rfl rfl rfl (by first | omega | (simp; omega)) rfl ?_))
        refine ⟨⟨i + 1, hlt'⟩, by dsimp only; omega, ?_⟩
        dsimp only
        rw [e]
        exact fits_trans (s' := ⟨[.row 0 34 6 ((flatF (l.take i)).map tD ++ [tD l[i].tok] ++ (flatF l[i].kids).map tD ++ [tD (tkK 20 (clF l[i].tok))]), .gone], [(2, .row 0 0), (5, .sl 7 (l.map nF)), (6, .val (.int .i64 l.length)), (7, .val (.int .i64 ((i + 1 : Nat) : Int)))]⟩) (fits_conv (by repeat' first | exact trivial | exact rfl | (rw [List.map_append]; first | done | rfl) | exact c_sub rfl (Sub.refl _) rfl | exact c_nil rfl rfl | exact c_thaw rfl rfl rfl | exact c_row rfl rfl rfl | exact c_row rfl rfl (by rw [List.map_append]; first | done | rfl) | exact c_ptr rfl rfl rfl rfl | exact Or.inl ⟨c_sub rfl (Sub.refl _) rfl, c_ptr rfl rfl rfl rfl⟩ | exact c_alt rfl rfl rfl rfl | exact c_ro rfl rfl | exact c_eo rfl rfl | exact c_sub rfl (Sub.altl _ _) rfl | exact c_sub rfl (Sub.nil _) rfl | refine ⟨_, _, rfl, ?_, ?_⟩ | apply And.intro) (by repeat' first | exact trivial | exact rfl | (rw [List.map_append]; first | done | rfl) | exact c_sub rfl (Sub.refl _) rfl | exact c_nil rfl rfl | exact c_thaw rfl rfl rfl | exact c_row rfl rfl rfl | exact c_row rfl rfl (by rw [List.map_append]; first | done | rfl) | exact c_ptr rfl rfl rfl rfl | exact Or.inl ⟨c_sub rfl (Sub.refl _) rfl, c_ptr rfl rfl rfl rfl⟩ | exact c_alt rfl rfl rfl rfl | exact c_ro rfl rfl | exact c_eo rfl rfl | exact c_sub rfl (Sub.altl _ _) rfl | exact c_sub rfl (Sub.nil _) rfl | refine ⟨_, _, rfl, ?_, ?_⟩ | apply And.intro)) (fits_drop 1 rfl rfl ⟨⟨rfl, Sub.refl _⟩, ⟨rfl, Sub.refl _⟩, ⟨rfl, Sub.refl _⟩, ⟨rfl, Sub.refl _⟩, trivial⟩)
      · simp only [Int.toNat_natCast] at ho
        rw [if_neg (by rw [ho]; decide)] at hfn hl1
        have e : (flatF (l.take (i + 1))).map tD = (flatF (l.take i)).map tD ++ [tD l[i].tok] := by
          rw [hft, hfn]
          simp
        repeat (first
          | refine thenA_normal ?_
          | refine a_region ?_
          | refine awp_skip ?_
          | refine r_done ?_
          | (refine r_id ?_; first
            | refine r_ev tab_ok rfl rfl rfl rfl (by first | exact trivial | exact ⟨by omega, by omega⟩ | omega | exact ⟨by omega, by omega, by omega, by omega⟩ | exact Nat.le_of_ble_eq_true rfl) rfl ?_))
        refine ⟨⟨i + 1, hlt'⟩, by dsimp only; omega, ?_⟩
        dsimp only
        rw [e]
        exact fits_trans (s' := ⟨[.row 0 34 6 ((flatF (l.take i)).map tD ++ [tD l[i].tok]), .gone], [(2, .row 0 0), (5, .sl 7 (l.map nF)), (6, .val (.int .i64 l.length)), (7, .val (.int .i64 ((i + 1 : Nat) : Int)))]⟩) (fits_conv (by repeat' first | exact trivial | exact rfl | (rw [List.map_append]; first | done | rfl) | exact c_sub rfl (Sub.refl _) rfl | exact c_nil rfl rfl | exact c_thaw rfl rfl rfl | exact c_row rfl rfl rfl | exact c_row rfl rfl (by rw [List.map_append]; first | done | rfl) | exact c_ptr rfl rfl rfl rfl | exact Or.inl ⟨c_sub rfl (Sub.refl _) rfl, c_ptr rfl rfl rfl rfl⟩ | exact c_alt rfl rfl rfl rfl | exact c_ro rfl rfl | exact c_eo rfl rfl | exact c_sub rfl (Sub.altl _ _) rfl | exact c_sub rfl (Sub.nil _) rfl | refine ⟨_, _, rfl, ?_, ?_⟩ | apply And.intro) (by repeat' first | exact trivial | exact rfl | (rw [List.map_append]; first | done | rfl) | exact c_sub rfl (Sub.refl _) rfl | exact c_nil rfl rfl | exact c_thaw rfl rfl rfl | exact c_row rfl rfl rfl | exact c_row rfl rfl (by rw [List.map_append]; first | done | rfl) | exact c_ptr rfl rfl rfl rfl | exact Or.inl ⟨c_sub rfl (Sub.refl _) rfl, c_ptr rfl rfl rfl rfl⟩ | exact c_alt rfl rfl rfl rfl | exact c_ro rfl rfl | exact c_eo rfl rfl | exact c_sub rfl (Sub.altl _ _) rfl | exact c_sub rfl (Sub.nil _) rfl | refine ⟨_, _, rfl, ?_, ?_⟩ | apply And.intro)) (fits_drop 1 rfl rfl ⟨⟨rfl, Sub.refl _⟩, ⟨rfl, Sub.refl _⟩, ⟨rfl, Sub.refl _⟩, ⟨rfl, Sub.refl _⟩, trivial⟩)
    · have e : l.take i = l := List.take_of_length_le (by omega)
      rw [e]
      repeat (first
        | refine awp_seq ?_
        | refine thenA_normal ?_
        | refine a_region ?_
        | refine awp_ret ?_
        | refine awp_exit ?_
        | refine r_done ?_
        | (refine r_id ?_; first
          | refine r_ev tab_ok rfl rfl rfl rfl (by first | exact trivial | exact ⟨by omega, by omega⟩ | omega | exact ⟨by omega, by omega, by omega, by omega⟩ | exact Nat.le_of_ble_eq_true rfl) rfl ?_)
        | refine ret1_row (by first | exact .inl rfl | exact .inr rfl) rfl rfl rfl ?_)
      exact Sub.refl _
def trimB (l : List Nd) : List Nd := (l.reverse.dropWhile whN).reverse
def trimF (l : List Nd) : List Nd := trimB (l.dropWhile whN)
theorem trimB_go {m : List Nd} {a : Nd} (h : whN a = true) : trimB (m ++ [a]) = trimB m := by simp [trimB, h]
theorem trimB_no {m : List Nd} {a : Nd} (h : whN a = false) : trimB (m ++ [a]) = m ++ [a] := by simp [trimB, h]
theorem nszs_append (l m : List Nd) : nszs (l ++ m) = nszs l + nszs m := by
  induction l with
  | nil => simp [nszs]
  | cons n r ih => rw [List.cons_append, nszs, nszs, ih]; omega
theorem snoc_or {α : Type} (l : List α) : l = [] ∨ ∃ q z, l = q ++ [z] := by
  rcases List.eq_nil_or_concat l with h | ⟨q, z, h⟩
  · exact .inl h
  · exact .inr ⟨q, z, by rw [h, List.concat_eq_append]⟩
set_option maxHeartbeats 2000000 in
theorem trim_ok (n : Nat) (l : List Nd) (hn : nszs l < n) (hb : n ≤ 1099511627776) : PCalls Try.prog 18 [.sl 7 (l.map nF)] (.sl 7 ((trimF l).map nF)) := by
  refine p_start Try.func18 Try.ntmps18 rfl rfl rfl fun S w => ?_
  repeat (first
    | refine awp_seq ?_
    | refine awp_block ?_
    | refine a_region ?_
    | refine r_done ?_
    | (refine r_id ?_; first
      | refine r_ev tab_ok rfl rfl rfl rfl (by first | exact trivial | exact ⟨by omega, by omega⟩ | omega | exact ⟨by omega, by omega, by omega, by omega⟩ | exact Nat.le_of_ble_eq_true rfl) rfl ?_))
  refine a_loop (σ := {m : List Nd // nszs m ≤ nszs l ∧ m.dropWhile whN = l.dropWhile whN}) (fun _ => []) (fun x => [(0, .sl 7 (x.1.map nF))]) (fun x => x.1.length) ⟨l, Nat.le_refl _, rfl⟩ (fits_conv (by repeat' first | exact trivial | exact rfl | (rw [List.map_append]; first | done | rfl) | exact c_sub rfl (Sub.refl _) rfl | exact c_nil rfl rfl | exact c_thaw rfl rfl rfl | exact c_row rfl rfl rfl | exact c_row rfl rfl (by rw [List.map_append]; first | done | rfl) | exact c_ptr rfl rfl rfl rfl | exact Or.inl ⟨c_sub rfl (Sub.refl _) rfl, c_ptr rfl rfl rfl rfl⟩ | exact c_alt rfl rfl rfl rfl | exact c_ro rfl rfl | exact c_eo rfl rfl | exact c_sub rfl (Sub.altl _ _) rfl | exact c_sub rfl (Sub.nil _) rfl | refine ⟨_, _, rfl, ?_, ?_⟩ | apply And.intro) (by repeat' first | exact trivial | exact rfl | (rw [List.map_append]; first | done | rfl) | exact c_sub rfl (Sub.refl _) rfl | exact c_nil rfl rfl | exact c_thaw rfl rfl rfl | exact c_row rfl rfl rfl | exact c_row rfl rfl (by rw [List.map_append]; first | done | rfl) | exact c_ptr rfl rfl rfl rfl | exact Or.inl ⟨c_sub rfl (Sub.refl _) rfl, c_ptr rfl rfl rfl rfl⟩ | exact c_alt rfl rfl rfl rfl | exact c_ro rfl rfl | exact c_eo rfl rfl | exact c_sub rfl (Sub.altl _ _) rfl | exact c_sub rfl (Sub.nil _) rfl | refine ⟨_, _, rfl, ?_, ?_⟩ | apply And.intro)) ?_
  rintro ⟨m, hm, hd⟩
  dsimp only
  have hml := nszs_len m
  have hmm : (m.map nF).length = m.length := List.length_map _
  rcases m with _ | ⟨a, r⟩
  · have hr : trimB [] = trimF l := by rw [trimF, ← hd]; rfl
    repeat (first
      | refine awp_seq ?_
      | refine thenA_normal ?_
      | refine awp_block ?_
      | refine a_region ?_
      | refine awp_exit ?_
      | refine r_done ?_
      | (refine r_id ?_; first
        | refine r_len tab_ok rfl rfl rfl rfl rfl rfl rfl ?_
        | refine r_ev tab_ok rfl rfl rfl rfl (by first | exact trivial | exact ⟨by omega, by omega⟩ | omega | exact ⟨by omega, by omega, by omega, by omega⟩ | exact Nat.le_of_ble_eq_true rfl) rfl ?_
        | refine r_ev_cnd tab_ok rfl rfl rfl rfl rfl rfl (by first | exact fun _ => rfl | exact cs1 | exact cs2 | exact cs3) (by first | exact fun _ => trivial | (intro h; simp at h; first | exact ⟨by omega, by omega⟩ | omega)) rfl ?_
        | refine r_pick_f rfl rfl rfl rfl rfl rfl rfl ?_
        | refine r_off rfl rfl rfl rfl rfl rfl ?_)
      | refine awp_cond_f rfl ?_)
    refine a_loop (σ := {k : List Nd // nszs k ≤ nszs l ∧ trimB k = trimF l}) (fun _ => []) (fun x => [(0, .sl 7 (x.1.map nF))]) (fun x => x.1.length) ⟨[], Nat.zero_le _, hr⟩ (fits_conv (by repeat' first | exact trivial | exact rfl | (rw [List.map_append]; first | done | rfl) | exact c_sub rfl (Sub.refl _) rfl | exact c_nil rfl rfl | exact c_thaw rfl rfl rfl | exact c_row rfl rfl rfl | exact c_row rfl rfl (by rw [List.map_append]; first | done | rfl) | exact c_ptr rfl rfl rfl rfl | exact Or.inl ⟨c_sub rfl (Sub.refl _) rfl, c_ptr rfl rfl rfl rfl⟩ | exact c_alt rfl rfl rfl rfl | exact c_ro rfl rfl | exact c_eo rfl rfl | exact c_sub rfl (Sub.altl _ _) rfl | exact c_sub rfl (Sub.nil _) rfl | refine ⟨_, _, rfl, ?_, ?_⟩ | apply And.intro) (by repeat' first | exact trivial | exact rfl | (rw [List.map_append]; first | done | rfl) | exact c_sub rfl (Sub.refl _) rfl | exact c_nil rfl rfl | exact c_thaw rfl rfl rfl | exact c_row rfl rfl rfl | exact c_row rfl rfl (by rw [List.map_append]; first | done | rfl) | exact c_ptr rfl rfl rfl rfl | exact Or.inl ⟨c_sub rfl (Sub.refl _) rfl, c_ptr rfl rfl rfl rfl⟩ | exact c_alt rfl rfl rfl rfl | exact c_ro rfl rfl | exact c_eo rfl rfl | exact c_sub rfl (Sub.altl _ _) rfl | exact c_sub rfl (Sub.nil _) rfl | refine ⟨_, _, rfl, ?_, ?_⟩ | apply And.intro)) ?_
    rintro ⟨k, hk, hkt⟩
    dsimp only
    have hkl := nszs_len k
    have hkm : (k.map nF).length = k.length := List.length_map _
    rcases snoc_or k with rfl | ⟨q, z, rfl⟩
    · repeat (first
        | refine awp_seq ?_
        | refine thenA_normal ?_
        | refine a_region ?_
        | refine awp_exit ?_
        | refine r_done ?_
        | (refine r_id ?_; first
          | refine r_len tab_ok rfl rfl rfl rfl rfl rfl rfl ?_
          | refine r_ev tab_ok rfl rfl rfl rfl (by first | exact trivial | exact ⟨by omega, by omega⟩ | omega | exact ⟨by omega, by omega, by omega, by omega⟩ | exact Nat.le_of_ble_eq_true rfl) rfl ?_
          | refine r_len_cnd tab_ok rfl rfl rfl rfl rfl rfl (by first | exact fun _ => rfl | exact cs1) rfl rfl rfl ?_
          | refine r_ev_cnd tab_ok rfl rfl rfl rfl rfl rfl (by first | exact fun _ => rfl | exact cs1 | exact cs2 | exact cs3) (by first | exact fun _ => trivial | (intro h; simp at h; first | exact ⟨by omega, by omega⟩ | omega)) rfl ?_
          | refine r_pick_f rfl rfl rfl rfl rfl rfl rfl ?_
          | refine r_off rfl rfl rfl rfl rfl rfl ?_)
        | refine awp_cond_f rfl ?_)
      refine r_call (copy_ok n [] (by rw [nszs]; omega) hb) call25 rfl rfl ⟨Sub.refl _, trivial⟩ rfl rfl rfl rfl ?_
      repeat (first
        | refine thenA_normal ?_
        | refine awp_ret ?_
        | refine r_done ?_
        | (refine r_id ?_; first
          | refine r_ev tab_ok rfl rfl rfl rfl (by first | exact trivial | exact ⟨by omega, by omega⟩ | omega | exact ⟨by omega, by omega, by omega, by omega⟩ | exact Nat.le_of_ble_eq_true rfl) rfl ?_)
        | refine ret1 (by first | exact .inl rfl | exact .inr rfl) rfl rfl rfl ?_)
      exact Sub.of_eq (by rw [← hkt]; rfl)
    · have hql : (q ++ [z]).length = q.length + 1 := by rw [List.length_append, List.length_singleton]
      have hlt : ((((q ++ [z]).length : Nat) : Int) - 1).toNat < (q ++ [z]).length := by omega
      have hz : (q ++ [z])[((((q ++ [z]).length : Nat) : Int) - 1).toNat]'hlt = z := by
        have e : ((((q ++ [z]).length : Nat) : Int) - 1).toNat = q.length := by omega
        simp only [e]
        simp
      have hqs := nszs_append q [z]
      repeat (first
        | refine awp_seq ?_
        | refine a_region ?_
        | (refine r_id ?_; first
          | refine r_len tab_ok rfl rfl rfl rfl rfl rfl rfl ?_
          | refine r_ev tab_ok rfl rfl rfl rfl (by first | exact trivial | exact ⟨by omega, by omega⟩ | omega | exact ⟨by omega, by omega, by omega, by omega⟩ | exact Nat.le_of_ble_eq_true rfl) rfl ?_
          | refine r_len_cnd tab_ok rfl rfl rfl rfl rfl rfl (by first | exact fun _ => rfl | exact cs1) rfl rfl rfl ?_
          | refine r_ev_cnd tab_ok rfl rfl rfl rfl rfl rfl (by first | exact fun _ => rfl | exact cs1 | exact cs2 | exact cs3) (by first | exact fun _ => trivial | (intro h; simp at h; first | exact ⟨by omega, by omega⟩ | omega)) rfl ?_
          | refine r_idx_cnd tab_ok rfl rfl rfl rfl rfl rfl rfl (by first | exact fun _ => rfl | exact cs1 | exact cs2) rfl rfl (by exact ⟨by omega, by omega⟩) rfl rfl ?_))
      refine r_call_cnd (fun _ => White_ok ((q ++ [z])[((((q ++ [z]).length : Nat) : Int) - 1).toNat]'hlt)) call27 rfl rfl rfl rfl (by first | exact fun _ => rfl | exact cs1 | exact cs2 | exact cs3) (by exact ⟨Sub.refl _, trivial⟩) rfl rfl rfl rfl ?_
      repeat (first
        | refine thenA_normal ?_
        | refine r_done ?_
        | (refine r_id ?_; first
          | refine r_and rfl rfl rfl rfl rfl rfl rfl rfl ?_))
      rw [hz]
      refine awp_cond rfl (fun h2 => ?_) (fun h2 => ?_)
      · have hwz : whN z = true := by
          rw [Bool.and_eq_true] at h2
          exact h2.2
        have eq1 : ((q ++ [z]).take ((((q ++ [z]).length : Nat) : Int) - 1).toNat).drop 0 = q := by
          have e : ((((q ++ [z]).length : Nat) : Int) - 1).toNat = q.length := by omega
          rw [e, List.drop_zero, List.take_left]
        repeat (first
          | refine thenA_normal ?_
          | refine awp_block ?_
          | refine a_region ?_
          | refine blockA_normal ?_
          | refine awp_skip ?_
          | refine r_done ?_
          | (refine r_id ?_; first
            | refine r_len tab_ok rfl rfl rfl rfl rfl rfl rfl ?_
            | refine r_ev tab_ok rfl rfl rfl rfl (by first | exact trivial | exact ⟨by omega, by omega⟩ | omega | exact ⟨by omega, by omega, by omega, by omega⟩ | exact Nat.le_of_ble_eq_true rfl) rfl ?_
            | refine r_cut tab_ok rfl rfl rfl rfl rfl rfl rfl rfl (by first | exact ⟨by simp, by simp; omega, by simp⟩ | (simp; omega)) rfl ?_))
        refine ⟨⟨q, by omega, by rw [← hkt, trimB_go hwz]⟩, by dsimp only; omega, fits_conv (by repeat' first | exact trivial | exact rfl | (rw [List.map_append]; first | done | rfl) | exact c_sub rfl (Sub.refl _) rfl | exact c_nil rfl rfl | exact c_thaw rfl rfl rfl | exact c_row rfl rfl rfl | exact c_row rfl rfl (by rw [List.map_append]; first | done | rfl) | exact c_ptr rfl rfl rfl rfl | exact Or.inl ⟨c_sub rfl (Sub.refl _) rfl, c_ptr rfl rfl rfl rfl⟩ | exact c_alt rfl rfl rfl rfl | exact c_ro rfl rfl | exact c_eo rfl rfl | exact c_sub rfl (Sub.altl _ _) rfl | exact c_sub rfl (Sub.nil _) rfl | refine ⟨_, _, rfl, ?_, ?_⟩ | apply And.intro) ⟨c_sub rfl (Sub.of_eq (by rw [← congrArg (List.map nF) eq1]; rfl)) rfl, trivial⟩⟩
      · have hwz : whN z = false := by
          have hp : decide (0 < (((q ++ [z]).length : Nat) : Int)) = true := by rw [decide_eq_true_eq]; omega
          rw [hp, Bool.true_and] at h2
          exact h2
        rw [trimB_no hwz] at hkt
        repeat (first
          | refine awp_seq ?_
          | refine a_region ?_
          | refine awp_exit ?_
          | (refine r_id ?_; first
            | refine r_ev tab_ok rfl rfl rfl rfl (by first | exact trivial | exact ⟨by omega, by omega⟩ | omega | exact ⟨by omega, by omega, by omega, by omega⟩ | exact Nat.le_of_ble_eq_true rfl) rfl ?_))
        refine r_call (copy_ok n (q ++ [z]) (by omega) hb) call25 rfl rfl ⟨Sub.refl _, trivial⟩ rfl rfl rfl rfl ?_
        repeat (first
          | refine thenA_normal ?_
          | refine awp_ret ?_
          | refine r_done ?_
          | (refine r_id ?_; first
            | refine r_ev tab_ok rfl rfl rfl rfl (by first | exact trivial | exact ⟨by omega, by omega⟩ | omega | exact ⟨by omega, by omega, by omega, by omega⟩ | exact Nat.le_of_ble_eq_true rfl) rfl ?_)
          | refine ret1 (by first | exact .inl rfl | exact .inr rfl) rfl rfl rfl ?_)
        exact Sub.of_eq (by rw [hkt])
  · have hpos : 0 < (a :: r).length := Nat.succ_pos _
    repeat (first
      | refine awp_seq ?_
      | refine a_region ?_
      | (refine r_id ?_; first
        | refine r_len tab_ok rfl rfl rfl rfl rfl rfl rfl ?_
        | refine r_ev tab_ok rfl rfl rfl rfl (by first | exact trivial | exact ⟨by omega, by omega⟩ | omega | exact ⟨by omega, by omega, by omega, by omega⟩ | exact Nat.le_of_ble_eq_true rfl) rfl ?_
        | refine r_ev_cnd tab_ok rfl rfl rfl rfl rfl rfl (by first | exact fun _ => rfl | exact cs1 | exact cs2 | exact cs3) (by first | exact fun _ => trivial | (intro h; simp at h; first | exact ⟨by omega, by omega⟩ | omega)) rfl ?_
        | refine r_idx_cnd tab_ok rfl rfl rfl rfl rfl rfl rfl (by first | exact fun _ => rfl | exact cs1 | exact cs2) rfl rfl (by exact ⟨by omega, by omega⟩) rfl rfl ?_))
    refine r_call_cnd (fun _ => White_ok a) call27 rfl rfl rfl rfl (by first | exact fun _ => rfl | exact cs1 | exact cs2 | exact cs3) ⟨Sub.refl _, trivial⟩ rfl rfl rfl rfl ?_
    repeat (first
      | refine thenA_normal ?_
      | refine r_done ?_
      | (refine r_id ?_; first
        | refine r_and rfl rfl rfl rfl rfl rfl rfl rfl ?_))
    refine awp_cond rfl (fun h => ?_) (fun h => ?_)
    · have hwa : whN a = true := by
        rw [Bool.and_eq_true] at h
        exact h.2
      have eq1 : ((a :: r).take ((((a :: r).length : Nat) : Int)).toNat).drop 1 = r := by
        rw [Int.toNat_natCast, List.take_length]
        rfl
      have hns : nszs (a :: r) = nsz a + nszs r := rfl
      repeat (first
        | refine thenA_normal ?_
        | refine awp_block ?_
        | refine a_region ?_
        | refine blockA_normal ?_
        | refine awp_skip ?_
        | refine r_done ?_
        | (refine r_id ?_; first
          | refine r_ev tab_ok rfl rfl rfl rfl (by first | exact trivial | exact ⟨by omega, by omega⟩ | omega | exact ⟨by omega, by omega, by omega, by omega⟩ | exact Nat.le_of_ble_eq_true rfl) rfl ?_
          | refine r_cut tab_ok rfl rfl rfl rfl rfl rfl rfl rfl (by first | exact ⟨by simp, by simp; omega, by simp⟩ | (simp; omega)) rfl ?_))
      refine ⟨⟨r, by omega, by rw [← hd, List.dropWhile_cons_of_pos hwa]⟩, by dsimp only; rw [List.length_cons]; omega, fits_conv (by repeat' first | exact trivial | exact rfl | (rw [List.map_append]; first | done | rfl) | exact c_sub rfl (Sub.refl _) rfl | exact c_nil rfl rfl | exact c_thaw rfl rfl rfl | exact c_row rfl rfl rfl | exact c_row rfl rfl (by rw [List.map_append]; first | done | rfl) | exact c_ptr rfl rfl rfl rfl | exact Or.inl ⟨c_sub rfl (Sub.refl _) rfl, c_ptr rfl rfl rfl rfl⟩ | exact c_alt rfl rfl rfl rfl | exact c_ro rfl rfl | exact c_eo rfl rfl | exact c_sub rfl (Sub.altl _ _) rfl | exact c_sub rfl (Sub.nil _) rfl | refine ⟨_, _, rfl, ?_, ?_⟩ | apply And.intro) ⟨c_sub rfl (Sub.of_eq (by rw [← congrArg (List.map nF) eq1]; rfl)) rfl, trivial⟩⟩
    · have hwa : whN a = false := by
        have hp : decide (0 < (((a :: r).length : Nat) : Int)) = true := by rw [decide_eq_true_eq]; omega
        rw [hp, Bool.true_and] at h
        exact h
      have hr : trimB (a :: r) = trimF l := by rw [trimF, ← hd, List.dropWhile_cons_of_neg (by rw [hwa]; decide)]
      repeat (first
        | refine awp_seq ?_
        | refine awp_block ?_
        | refine awp_exit ?_)
      refine a_loop (σ := {k : List Nd // nszs k ≤ nszs l ∧ trimB k = trimF l}) (fun _ => []) (fun x => [(0, .sl 7 (x.1.map nF))]) (fun x => x.1.length) ⟨a :: r, hm, hr⟩ (fits_conv (by repeat' first | exact trivial | exact rfl | (rw [List.map_append]; first | done | rfl) | exact c_sub rfl (Sub.refl _) rfl | exact c_nil rfl rfl | exact c_thaw rfl rfl rfl | exact c_row rfl rfl rfl | exact c_row rfl rfl (by rw [List.map_append]; first | done | rfl) | exact c_ptr rfl rfl rfl rfl | exact Or.inl ⟨c_sub rfl (Sub.refl _) rfl, c_ptr rfl rfl rfl rfl⟩ | exact c_alt rfl rfl rfl rfl | exact c_ro rfl rfl | exact c_eo rfl rfl | exact c_sub rfl (Sub.altl _ _) rfl | exact c_sub rfl (Sub.nil _) rfl | refine ⟨_, _, rfl, ?_, ?_⟩ | apply And.intro) (by repeat' first | exact trivial | exact rfl | (rw [List.map_append]; first | done | rfl) | exact c_sub rfl (Sub.refl _) rfl | exact c_nil rfl rfl | exact c_thaw rfl rfl rfl | exact c_row rfl rfl rfl | exact c_row rfl rfl (by rw [List.map_append]; first | done | rfl) | exact c_ptr rfl rfl rfl rfl | exact Or.inl ⟨c_sub rfl (Sub.refl _) rfl, c_ptr rfl rfl rfl rfl⟩ | exact c_alt rfl rfl rfl rfl | exact c_ro rfl rfl | exact c_eo rfl rfl | exact c_sub rfl (Sub.altl _ _) rfl | exact c_sub rfl (Sub.nil _) rfl | refine ⟨_, _, rfl, ?_, ?_⟩ | apply And.intro)) ?_
      rintro ⟨k, hk, hkt⟩
      dsimp only
      have hkl := nszs_len k
      have hkm : (k.map nF).length = k.length := List.length_map _
      rcases snoc_or k with rfl | ⟨q, z, rfl⟩
      · repeat (first
          | refine awp_seq ?_
          | refine thenA_normal ?_
          | refine a_region ?_
          | refine awp_exit ?_
          | refine r_done ?_
          | (refine r_id ?_; first
            | refine r_len tab_ok rfl rfl rfl rfl rfl rfl rfl ?_
            | refine r_ev tab_ok rfl rfl rfl rfl (by first | exact trivial | exact ⟨by omega, by omega⟩ | omega | exact ⟨by omega, by omega, by omega, by omega⟩ | exact Nat.le_of_ble_eq_true rfl) rfl ?_
            | refine r_len_cnd tab_ok rfl rfl rfl rfl rfl rfl (by first | exact fun _ => rfl | exact cs1) rfl rfl rfl ?_
            | refine r_ev_cnd tab_ok rfl rfl rfl rfl rfl rfl (by first | exact fun _ => rfl | exact cs1 | exact cs2 | exact cs3) (by first | exact fun _ => trivial | (intro h; simp at h; first | exact ⟨by omega, by omega⟩ | omega)) rfl ?_
            | refine r_pick_f rfl rfl rfl rfl rfl rfl rfl ?_
            | refine r_off rfl rfl rfl rfl rfl rfl ?_)
          | refine awp_cond_f rfl ?_)
        refine r_call (copy_ok n [] (by rw [nszs]; omega) hb) call25 rfl rfl ⟨Sub.refl _, trivial⟩ rfl rfl rfl rfl ?_
        repeat (first
          | refine thenA_normal ?_
          | refine awp_ret ?_
          | refine r_done ?_
          | (refine r_id ?_; first
            | refine r_ev tab_ok rfl rfl rfl rfl (by first | exact trivial | exact ⟨by omega, by omega⟩ | omega | exact ⟨by omega, by omega, by omega, by omega⟩ | exact Nat.le_of_ble_eq_true rfl) rfl ?_)
          | refine ret1 (by first | exact .inl rfl | exact .inr rfl) rfl rfl rfl ?_)
        exact Sub.of_eq (by rw [← hkt]; rfl)
      · have hql : (q ++ [z]).length = q.length + 1 := by rw [List.length_append, List.length_singleton]
        have hlt : ((((q ++ [z]).length : Nat) : Int) - 1).toNat < (q ++ [z]).length := by omega
        have hz : (q ++ [z])[((((q ++ [z]).length : Nat) : Int) - 1).toNat]'hlt = z := by
          have e : ((((q ++ [z]).length : Nat) : Int) - 1).toNat = q.length := by omega
          simp only [e]
          simp
        have hqs := nszs_append q [z]
        repeat (first
          | refine awp_seq ?_
          | refine a_region ?_
          | (refine r_id ?_; first
            | refine r_len tab_ok rfl rfl rfl rfl rfl rfl rfl ?_
            | refine r_ev tab_ok rfl rfl rfl rfl (by first | exact trivial | exact ⟨by omega, by omega⟩ | omega | exact ⟨by omega, by omega, by omega, by omega⟩ | exact Nat.le_of_ble_eq_true rfl) rfl ?_
            | refine r_len_cnd tab_ok rfl rfl rfl rfl rfl rfl (by first | exact fun _ => rfl | exact cs1) rfl rfl rfl ?_
            | refine r_ev_cnd tab_ok rfl rfl rfl rfl rfl rfl (by first | exact fun _ => rfl | exact cs1 | exact cs2 | exact cs3) (by first | exact fun _ => trivial | (intro h; simp at h; first | exact ⟨by omega, by omega⟩ | omega)) rfl ?_
            | refine r_idx_cnd tab_ok rfl rfl rfl rfl rfl rfl rfl (by first | exact fun _ => rfl | exact cs1 | exact cs2) rfl rfl (by exact ⟨by omega, by omega⟩) rfl rfl ?_))
        refine r_call_cnd (fun _ => White_ok ((q ++ [z])[((((q ++ [z]).length : Nat) : Int) - 1).toNat]'hlt)) call27 rfl rfl rfl rfl (by first | exact fun _ => rfl | exact cs1 | exact cs2 | exact cs3) (by exact ⟨Sub.refl _, trivial⟩) rfl rfl rfl rfl ?_
        repeat (first
          | refine thenA_normal ?_
          | refine r_done ?_
          | (refine r_id ?_; first
            | refine r_and rfl rfl rfl rfl rfl rfl rfl rfl ?_))
        rw [hz]
        refine awp_cond rfl (fun h2 => ?_) (fun h2 => ?_)
        · have hwz : whN z = true := by
            rw [Bool.and_eq_true] at h2
            exact h2.2
          have eq1 : ((q ++ [z]).take ((((q ++ [z]).length : Nat) : Int) - 1).toNat).drop 0 = q := by
            have e : ((((q ++ [z]).length : Nat) : Int) - 1).toNat = q.length := by omega
            rw [e, List.drop_zero, List.take_left]
          repeat (first
            | refine thenA_normal ?_
            | refine awp_block ?_
            | refine a_region ?_
            | refine blockA_normal ?_
            | refine awp_skip ?_
            | refine r_done ?_
            | (refine r_id ?_; first
              | refine r_len tab_ok rfl rfl rfl rfl rfl rfl rfl ?_
              | refine r_ev tab_ok rfl rfl rfl rfl (by first | exact trivial | exact ⟨by omega, by omega⟩ | omega | exact ⟨by omega, by omega, by omega, by omega⟩ | exact Nat.le_of_ble_eq_true rfl) rfl ?_
              | refine r_cut tab_ok rfl rfl rfl rfl rfl rfl rfl rfl (by first | exact ⟨by simp, by simp; omega, by simp⟩ | (simp; omega)) rfl ?_))
          refine ⟨⟨q, by omega, by rw [← hkt, trimB_go hwz]⟩, by dsimp only; omega, fits_conv (by repeat' first | exact trivial | exact rfl | (rw [List.map_append]; first | done | rfl) | exact c_sub rfl (Sub.refl _) rfl | exact c_nil rfl rfl | exact c_thaw rfl rfl rfl | exact c_row rfl rfl rfl | exact c_row rfl rfl (by rw [List.map_append]; first | done | rfl) | exact c_ptr rfl rfl rfl rfl | exact Or.inl ⟨c_sub rfl (Sub.refl _) rfl, c_ptr rfl rfl rfl rfl⟩ | exact c_alt rfl rfl rfl rfl | exact c_ro rfl rfl | exact c_eo rfl rfl | exact c_sub rfl (Sub.altl _ _) rfl | exact c_sub rfl (Sub.nil _) rfl | refine ⟨_, _, rfl, ?_, ?_⟩ | apply And.intro) ⟨c_sub rfl (Sub.of_eq (by rw [← congrArg (List.map nF) eq1]; rfl)) rfl, trivial⟩⟩
        · have hwz : whN z = false := by
            have hp : decide (0 < (((q ++ [z]).length : Nat) : Int)) = true := by rw [decide_eq_true_eq]; omega
            rw [hp, Bool.true_and] at h2
            exact h2
          rw [trimB_no hwz] at hkt
          repeat (first
            | refine awp_seq ?_
            | refine a_region ?_
            | refine awp_exit ?_
            | (refine r_id ?_; first
              | refine r_ev tab_ok rfl rfl rfl rfl (by first | exact trivial | exact ⟨by omega, by omega⟩ | omega | exact ⟨by omega, by omega, by omega, by omega⟩ | exact Nat.le_of_ble_eq_true rfl) rfl ?_))
          refine r_call (copy_ok n (q ++ [z]) (by omega) hb) call25 rfl rfl ⟨Sub.refl _, trivial⟩ rfl rfl rfl rfl ?_
          repeat (first
            | refine thenA_normal ?_
            | refine awp_ret ?_
            | refine r_done ?_
            | (refine r_id ?_; first
              | refine r_ev tab_ok rfl rfl rfl rfl (by first | exact trivial | exact ⟨by omega, by omega⟩ | omega | exact ⟨by omega, by omega, by omega, by omega⟩ | exact Nat.le_of_ble_eq_true rfl) rfl ?_)
            | refine ret1 (by first | exact .inl rfl | exact .inr rfl) rfl rfl rfl ?_)
          exact Sub.of_eq (by rw [hkt])
end Go.Proofs.Ytogjmafjoliimaa
