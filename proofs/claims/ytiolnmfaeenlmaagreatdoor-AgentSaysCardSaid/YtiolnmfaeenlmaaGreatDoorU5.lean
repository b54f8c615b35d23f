import Derived.Test.YtiolnmfaeenlmaaGreatDoorJa
import Derived.Test.YtiolnmfaeenlmaaGreatDoorKd
import Derived.Laws.StructEq
import Derived.Test.YtiolnmfaeenlmaaGreatDoorWd
import Derived.Test.YtiolnmfaeenlmaaGreatDoorEn
/- nest: nodes as plain trees; opens, closer, White, Copy, Deep. -/
namespace Go.Proofs.YtiolnmfaeenlmaaGreatDoor
open Go Go.RowKit

inductive Nd where
  | mk (tok : Tk) (kids : List Nd)
def Nd.tok : Nd → Tk | .mk t _ => t
def Nd.kids : Nd → List Nd | .mk _ k => k
mutual
def nD : Nd → D
  | .mk t k => .ag [.val (.int .i64 t.kind), .val (.string t.text), .val (.int .i64 t.int), .val (.bool t.whole), .val (.bool t.sign), .val (.bool t.id), .sl 7 (nDs k)]
def nDs : List Nd → List D
  | [] => []
  | n :: r => nD n :: nDs r
end
theorem nDs_map : ∀ l : List Nd, nDs l = l.map nD
  | [] => rfl
  | n :: r => by rw [nDs, nDs_map r]; rfl
theorem nD_eq (n : Nd) : nD n = .ag [.val (.int .i64 n.tok.kind), .val (.string n.tok.text), .val (.int .i64 n.tok.int), .val (.bool n.tok.whole), .val (.bool n.tok.sign), .val (.bool n.tok.id), .sl 7 (n.kids.map nD)] := by
  cases n
  rw [nD, nDs_map]
  rfl
mutual
def nsz : Nd → Nat
  | .mk _ k => 1 + nszs k
def nszs : List Nd → Nat
  | [] => 0
  | n :: r => nsz n + nszs r
end
theorem nsz_eq (n : Nd) : nsz n = 1 + nszs n.kids := by cases n; rfl
theorem nszs_len : ∀ l : List Nd, l.length ≤ nszs l
  | [] => Nat.le_refl _
  | n :: r => by
    have := nszs_len r
    have := nsz_eq n
    rw [nszs, List.length_cons]
    omega
theorem nszs_at : ∀ {l : List Nd} {i : Nat} (h : i < l.length), nszs l[i].kids < nszs l
  | n :: r, 0, _ => by
    have := nsz_eq n
    rw [nszs]
    show nszs n.kids < _
    omega
  | n :: r, i + 1, h => by
    have := nszs_at (l := r) (i := i) (by simpa using h)
    rw [nszs]
    show nszs (r[i]'(by simpa using h)).kids < _
    omega
/-- The same, open at its top. -/
def nF (n : Nd) : D := .ag [.val (.int .i64 n.tok.kind), .val (.string n.tok.text), .val (.int .i64 n.tok.int), .val (.bool n.tok.whole), .val (.bool n.tok.sign), .val (.bool n.tok.id), .sl 7 (n.kids.map nD)]
theorem nD_fun : nD = nF := by
  funext n
  exact nD_eq n
def ncl (n : Nd) : List AV := [.val (.int .i64 n.tok.kind), .val (.string n.tok.text), .val (.int .i64 n.tok.int), .val (.bool n.tok.whole), .val (.bool n.tok.sign), .val (.bool n.tok.id), .sl 7 (n.kids.map nD)]
def nA (n : Nd) : AV := .agg (ncl n)
def opB (t : Tk) : Bool := decide (t.kind = 2) || (decide (t.kind = 19) && (decide (t.text = ⟨#[40]⟩) || decide (t.text = ⟨#[91]⟩) || decide (t.text = ⟨#[123]⟩)))
def clF (t : Tk) : ByteArray := if (decide (t.kind = 19) && decide (t.text = ⟨#[91]⟩)) = true then ⟨#[93]⟩ else if (decide (t.kind = 19) && decide (t.text = ⟨#[123]⟩)) = true then ⟨#[125]⟩ else ⟨#[41]⟩
theorem opens_ok (t : Tk) : PCalls Tryz.prog 62 [tA t] (.val (.bool (opB t))) := by
  refine p_start Tryz.func62 Tryz.ntmps62 rfl rfl rfl fun S w => ?_
  repeat (first | refine awp_seq ?_ | refine thenA_normal ?_ | refine a_region ?_ | refine awp_ret ?_ | refine r_done ?_ | (refine r_id ?_; first | refine r_ev tab_ok rfl rfl rfl rfl byE rfl ?_ | refine r_ld tab_ok rfl rfl rfl rfl rfl ?_ | refine r_wr tab_ok rfl rfl rfl rfl rfl ?_ | refine r_ev_cnd tab_ok rfl rfl rfl rfl rfl rfl byC (by first | exact fun _ => trivial | (intro h; simp at h; first | exact ⟨by omega, by omega⟩ | omega)) rfl ?_ | refine r_ld_cnd tab_ok rfl rfl rfl rfl rfl rfl byC rfl ?_ | refine r_and_cnd rfl rfl rfl rfl rfl rfl rfl rfl rfl rfl ?_ | refine r_or_cnd rfl rfl rfl rfl rfl rfl rfl rfl rfl rfl ?_ | refine r_or rfl rfl rfl rfl rfl rfl rfl rfl ?_) | refine ret1 byO rfl rfl rfl ?_)
  exact Sub.refl _
theorem closer_ok (t : Tk) : PCalls Tryz.prog 63 [tA t] (.val (.string (clF t))) := by
  refine p_start Tryz.func63 Tryz.ntmps63 rfl rfl rfl fun S w => ?_
  repeat (first | refine awp_seq ?_ | refine thenA_normal ?_ | refine awp_block ?_ | refine a_region ?_ | refine r_done ?_ | (refine r_id ?_; first | refine r_ev tab_ok rfl rfl rfl rfl byE rfl ?_ | refine r_ld tab_ok rfl rfl rfl rfl rfl ?_ | refine r_wr tab_ok rfl rfl rfl rfl rfl ?_ | refine r_ev_cnd tab_ok rfl rfl rfl rfl rfl rfl byC (by first | exact fun _ => trivial | (intro h; simp at h; first | exact ⟨by omega, by omega⟩ | omega)) rfl ?_ | refine r_ld_cnd tab_ok rfl rfl rfl rfl rfl rfl byC rfl ?_ | refine r_and rfl rfl rfl rfl rfl rfl rfl rfl ?_))
  refine awp_cond rfl (fun h => ?_) (fun h => ?_)
  · rw [clF, if_pos h]
    repeat (first | refine awp_seq ?_ | refine thenA_normal ?_ | refine a_region ?_ | refine awp_ret ?_ | refine thenA_ret ?_ | refine blockA_ret ?_ | refine r_done ?_ | (refine r_id ?_; first | refine r_ev tab_ok rfl rfl rfl rfl byE rfl ?_) | refine ret1 byO rfl rfl rfl ?_)
    exact Sub.refl _
  rw [clF, if_neg (by rw [h]; decide)]
  repeat (first | refine awp_seq ?_ | refine thenA_normal ?_ | refine a_region ?_ | refine r_done ?_ | (refine r_id ?_; first | refine r_ev tab_ok rfl rfl rfl rfl byE rfl ?_ | refine r_ld tab_ok rfl rfl rfl rfl rfl ?_ | refine r_ev_cnd tab_ok rfl rfl rfl rfl rfl rfl byC (by first | exact fun _ => trivial | (intro h; simp at h; first | exact ⟨by omega, by omega⟩ | omega)) rfl ?_ | refine r_ld_cnd tab_ok rfl rfl rfl rfl rfl rfl byC rfl ?_ | refine r_and rfl rfl rfl rfl rfl rfl rfl rfl ?_))
  refine awp_cond rfl (fun h => ?_) (fun h => ?_)
  · rw [if_pos h]
    repeat (first | refine awp_seq ?_ | refine thenA_normal ?_ | refine a_region ?_ | refine awp_ret ?_ | refine thenA_ret ?_ | refine blockA_ret ?_ | refine r_done ?_ | (refine r_id ?_; first | refine r_ev tab_ok rfl rfl rfl rfl byE rfl ?_) | refine ret1 byO rfl rfl rfl ?_)
    exact Sub.refl _
  rw [if_neg (by rw [h]; decide)]
  repeat (first | refine awp_seq ?_ | refine thenA_normal ?_ | refine a_region ?_ | refine awp_ret ?_ | refine awp_skip ?_ | refine r_done ?_ | (refine r_id ?_; first | refine r_ev tab_ok rfl rfl rfl rfl byE rfl ?_) | refine ret1 byO rfl rfl rfl ?_)
  exact Sub.refl _
def whN (n : Nd) : Bool := decide (n.tok.kind = 13)
theorem White_ok (n : Nd) : PCalls Tryz.prog 40 [nA n] (.val (.bool (whN n))) := by
  refine p_start Tryz.func40 Tryz.ntmps40 rfl rfl rfl fun S w => ?_
  repeat (first | refine awp_seq ?_ | refine thenA_normal ?_ | refine a_region ?_ | refine awp_ret ?_ | refine r_done ?_ | (refine r_id ?_; first | refine r_ev tab_ok rfl rfl rfl rfl byE rfl ?_ | refine r_ld tab_ok rfl rfl rfl rfl rfl ?_ | refine r_wr tab_ok rfl rfl rfl rfl rfl ?_) | refine ret1 byO rfl rfl rfl ?_)
  exact Sub.refl _
theorem cloneN_ok (l : List Nd) (hl : l.length ≤ 1099511627776) : MCalls Tryz.prog 89 [] [.sl 7 (l.map nF)] [.row 0 49 7 (l.map nF)] (.row 0 0) := by
  refine mcalls_ofn Tryz.func89 Tryz.ntmps89 rfl rfl rfl 1 (by decide) fun S w β => ?_
  have hlm : (l.map nF).length = l.length := List.length_map _
  repeat (first | refine awp_seq ?_ | refine thenA_normal ?_ | refine a_region ?_ | refine r_done ?_ | (refine r_id ?_; first | refine r_ev tab_ok rfl rfl rfl rfl byE rfl ?_))
  refine awp_cond_u rfl (fun he => ?_) (fun _ => ?_)
  · have : l = [] := by simpa using he
    subst this
    repeat (first | refine awp_seq ?_ | refine thenA_normal ?_ | refine a_region ?_ | refine r_done ?_ | (refine r_id ?_; first | refine r_ev tab_ok rfl rfl rfl rfl byE rfl ?_))
    refine awp_fits (s' := ⟨[.row 0 49 7 []], [(2, .row 0 0)]⟩) (fits_conv byV ⟨c_nil rfl rfl, trivial⟩) ?_
    repeat (first | refine awp_ret ?_ | refine thenA_ret ?_ | refine retM1 byO rfl rfl rfl rfl rfl ?_)
    exact Sub.refl _
  · repeat (first | refine awp_seq ?_ | refine thenA_normal ?_ | refine a_region ?_ | refine awp_skip ?_ | refine r_done ?_ | (refine r_id ?_; first | refine r_ev tab_ok rfl rfl rfl rfl byE rfl ?_ | refine r_built0 tab_ok rfl rfl rfl rfl rfl rfl rfl ?_ | refine r_append tab_ok rfl rfl rfl rfl rfl rfl rfl rfl rfl (by first | omega | (simp; omega)) rfl ?_))
    refine awp_fits (s' := ⟨[.row 0 49 7 (l.map nF)], [(2, .row 0 0)]⟩) (fits_conv byV ⟨c_row rfl rfl rfl, trivial⟩) ?_
    repeat (first | refine awp_ret ?_ | refine retM1 byO rfl rfl rfl rfl rfl ?_)
    exact Sub.refl _
def eqT (c d : Tk) : Bool := decide (c.kind = d.kind) && (decide (c.text = d.text) && (decide (c.int = d.int) && (decide (c.whole = d.whole) && (decide (c.sign = d.sign) && decide (c.id = d.id)))))
theorem eqT_self (c : Tk) : eqT c c = true := by simp [eqT]
theorem eqT_eq {c d : Tk} (h : eqT c d = true) : c = d := by
  cases c; cases d
  simp [eqT] at h
  simp [h]
def tV (c : Tk) : Value := .agg #[.int .i64 c.kind, .string c.text, .int .i64 c.int, .bool c.whole, .bool c.sign, .bool c.id]
theorem tV_of {c : Tk} {M : List AB} {β : Env} {w : World} {imm : Nat → Prop} {v : Value} (h : AVsat M β w imm (tA c) v) : v = tV c := by
  obtain ⟨⟨cs⟩, rfl, _, _, h1, rfl, _, _, h2, rfl, _, _, h3, rfl, _, _, h4, rfl, _, _, h5, rfl, _, _, h6, rfl, h7⟩ := h
  rw [h7] at h6; rw [h6] at h5; rw [h5] at h4; rw [h4] at h3; rw [h3] at h2; rw [h2] at h1
  simp only at h1
  rw [tV, h1]
theorem run_eqT (c d : Tk) (w : World) : (Op.equalIn 10000 47 (tV c) (tV d)).run Tryz.prog w = .ok (eqT c d) w := by
  have hS : Tryz.prog.underlying 47 = some (.struct (Tryz.prog.fieldsOf 47)) := by kernel_rfl
  have hp : Tryz.prog.stoodInHeld 47 = false := by kernel_rfl
  have us := Tryz.underlying9
  have ui := Tryz.underlying3
  have ub := Tryz.underlying4
  have hps := Tryz.isAgg9 w
  have hpi := Tryz.isAgg3 w
  have hpb := Tryz.isAgg4 w
  rw [show (10000 : Nat) = 9999 + 1 from rfl, tV, tV, run_equalIn_agg w 9999 _ _ _ hS hp]
  simp only [Program.fieldsOf, Tryz.underlying47, Op.eqFields, part, Sem.run_bind, Sem.run_ite, hps, hpi, hpb, Result.andThen_ok]
  simp [run_equalIn_string w 9998 _ _ _ us, run_equalIn_int w 9998 _ _ _ _ _ ui, run_equalIn_bool' w 9998 _ _ _ ub, ← beq_toListBytes, eqT]
  have hb : (c.text == d.text) = decide (c.text = d.text) := by rw [beq_toListBytes, ByteArray.toList_eq, ByteArray.toList_eq, Bool.eq_iff_iff, beq_iff_eq, decide_eq_true_eq, Array.toList_inj, ByteArray.ext_iff]
  rw [hb]
  by_cases h1 : c.kind = d.kind <;> by_cases h2 : c.text = d.text <;> by_cases h3 : c.int = d.int <;> by_cases h4 : c.whole = d.whole <;> by_cases h5 : c.sign = d.sign <;> by_cases h6 : c.id = d.id <;> simp [h1, h2, h3, h4, h5, h6]
section
variable {o : Oper} {M : List AB} {ρ : Operand → AV}
theorem astep_neqT {u : TypeId} {x y : Operand} {c d : Tk} (ho : o.op = .binOp .neq 47 x y u) (hx : ρ x = tA c) (hy : ρ y = tA d) : AStep Tryz.prog o M ρ M (.val (.bool (!eqT c d))) :=
  .value fun S B β a w _ hs => by
    have h1 := hs x (by simp [ho, Op.operands])
    have h2 := hs y (by simp [ho, Op.operands])
    rw [hx] at h1; rw [hy] at h2
    have h1 := tV_of h1
    have h2 := tV_of h2
    refine ⟨_, ?_, rfl⟩
    have hg : (eqGuard .neq 47 x y (tV c) (tV d)).run Tryz.prog w = .ok () w := run_eqGuard_agg w _ _ _ _ _ _ (by kernel_rfl)
    have he : (binOp .neq 47 (tV c) (tV d)).run Tryz.prog w = .ok (.bool (!eqT c d)) w := by
      have := run_neq_struct (P := Tryz.prog) w 47 #[.int .i64 c.kind, .string c.text, .int .i64 c.int, .bool c.whole, .bool c.sign, .bool c.id] #[.int .i64 d.kind, .string d.text, .int .i64 d.int, .bool d.whole, .bool d.sign, .bool d.id]
      rw [← tV, ← tV, run_eqT] at this
      exact this
    simp only [execOp, ho, h1, h2, Sem.run_bind, hg, he, Result.andThen_ok]
    rfl
variable {ops : Array Oper} {N : Nat} {K : AS → Prop} {r : List Oper} {fo fo' : Option (List Nat)} {F : List (Nat × AV)} {dt : Tmp}
theorem r_neqT {u : TypeId} {x y : Operand} {c d : Tk} (hg : o.guard = none) (ho : o.op = .binOp .neq 47 x y u) (hx : aval (look F) x = tA c) (hy : aval (look F) y = tA d) (hdd : o.dst = some dt) (hd : dstB o.dst N = true) (hp : popF fo 1 = some fo')
    (k : RunX Tryz.prog ops N K r fo' M ((dt, .val (.bool (!eqT c d))) :: F)) : RunX Tryz.prog ops N K (o :: r) fo M F :=
  RunX.mk (fun _ k => Run.quiet hd (StepG.plain hg (astep_neqT ho hx hy)) (by rw [put_eq hdd]; exact k)) hp k
end
end Go.Proofs.YtiolnmfaeenlmaaGreatDoor

/- The reference's nodes, in plain words. -/
namespace Go.Proofs.YtiolnmfaeenlmaaGreatDoor
open Go Go.RowKit

def clzF (t : Tk) : ByteArray :=
  if (decide (t.kind = 2) || (decide (t.kind = 19) && decide (t.text = ⟨#[40]⟩))) = true then ⟨#[41]⟩
  else if (decide (t.kind = 19) && decide (t.text = ⟨#[91]⟩)) = true then ⟨#[93]⟩
  else if (decide (t.kind = 19) && decide (t.text = ⟨#[123]⟩)) = true then ⟨#[125]⟩ else ⟨#[]⟩
def tkAt (L : List Tk) (a : Nat) : Tk := L.getD a tk0
def clB1 (t : Tk) (c : ByteArray) : Bool := decide (t.kind = 20) && decide (t.text = c)
def addN (deep : Nat) (acc : List Nd) (n : Nd) : List Nd := if deep < 32 then acc ++ [n] else acc
/-- What stands in a node, from a place on. -/
def refK : Nat → List Tk → Nat → Nat → ByteArray → List Nd → List Nd × Nat
  | 0, _, a, _, _, acc => (acc, a)
  | f + 1, L, a, deep, c, acc =>
    if a < L.length then
      if clB1 (tkAt L a) c = true then (acc, a + 1)
      else if clzF (tkAt L a) = ⟨#[]⟩ then refK f L (a + 1) deep c (addN deep acc (.mk (tkAt L a) []))
      else refK f L (refK f L (a + 1) (deep + 1) (clzF (tkAt L a)) []).2 deep c (addN deep acc (.mk (tkAt L a) (refK f L (a + 1) (deep + 1) (clzF (tkAt L a)) []).1))
    else (acc, a)
theorem refK_le : ∀ (f : Nat) (L : List Tk) (a deep : Nat) (c : ByteArray) (acc : List Nd), a ≤ (refK f L a deep c acc).2 ∧ (a ≤ L.length → (refK f L a deep c acc).2 ≤ L.length)
  | 0, _, a, _, _, _ => ⟨Nat.le_refl _, fun h => h⟩
  | f + 1, L, a, deep, c, acc => by
    rw [refK]
    split
    · rename_i h
      split
      · exact ⟨Nat.le_succ _, fun _ => h⟩
      · split
        · have := refK_le f L (a + 1) deep c (addN deep acc (.mk (tkAt L a) []))
          exact ⟨by omega, fun _ => this.2 h⟩
        · have h1 := refK_le f L (a + 1) (deep + 1) (clzF (tkAt L a)) []
          have h2 := refK_le f L (refK f L (a + 1) (deep + 1) (clzF (tkAt L a)) []).2 deep c (addN deep acc (.mk (tkAt L a) (refK f L (a + 1) (deep + 1) (clzF (tkAt L a)) []).1))
          exact ⟨by omega, fun _ => h2.2 (h1.2 h)⟩
    · exact ⟨Nat.le_refl _, fun h => h⟩
theorem refK_fuel : ∀ (f f' : Nat) (L : List Tk) (a deep : Nat) (c : ByteArray) (acc : List Nd), L.length - a ≤ f → L.length - a ≤ f' → refK f L a deep c acc = refK f' L a deep c acc
  | 0, 0, _, _, _, _, _, _, _ => rfl
  | 0, f' + 1, L, a, deep, c, acc, h, _ => by rw [refK, refK, if_neg (by omega)]
  | f + 1, 0, L, a, deep, c, acc, _, h => by rw [refK, refK, if_neg (by omega)]
  | f + 1, f' + 1, L, a, deep, c, acc, h, h' => by
    rw [refK, refK]
    split
    · split
      · rfl
      · split
        · exact refK_fuel f f' _ _ _ _ _ (by omega) (by omega)
        · rw [refK_fuel f f' L (a + 1) (deep + 1) (clzF (tkAt L a)) [] (by omega) (by omega)]
          have := refK_le f' L (a + 1) (deep + 1) (clzF (tkAt L a)) []
          exact refK_fuel f f' _ _ _ _ _ (by omega) (by omega)
    · rfl
def kidsA (L : List Tk) (a deep : Nat) (c : ByteArray) (acc : List Nd) : List Nd × Nat := refK (L.length - a) L a deep c acc
/-- A node at a place, and what is behind it. -/
def nodeA (L : List Tk) (a deep : Nat) : Nd × Nat :=
  if clzF (tkAt L a) = ⟨#[]⟩ then (.mk (tkAt L a) [], a + 1) else (.mk (tkAt L a) (kidsA L (a + 1) deep (clzF (tkAt L a)) []).1, (kidsA L (a + 1) deep (clzF (tkAt L a)) []).2)
theorem kidsA_end {L : List Tk} {a deep : Nat} {c : ByteArray} {acc : List Nd} (h : ¬ a < L.length) : kidsA L a deep c acc = (acc, a) := by
  rw [kidsA, show L.length - a = 0 by omega, refK]
theorem kidsA_close {L : List Tk} {a deep : Nat} {c : ByteArray} {acc : List Nd} (h : a < L.length) (hc : clB1 (tkAt L a) c = true) : kidsA L a deep c acc = (acc, a + 1) := by
  obtain ⟨f, hf⟩ : ∃ f, L.length - a = f + 1 := ⟨L.length - a - 1, by omega⟩
  rw [kidsA, hf, refK, if_pos h, if_pos hc]
theorem kidsA_step {L : List Tk} {a deep : Nat} {c : ByteArray} {acc : List Nd} (h : a < L.length) (hc : clB1 (tkAt L a) c = false) : kidsA L a deep c acc = kidsA L (nodeA L a (deep + 1)).2 deep c (addN deep acc (nodeA L a (deep + 1)).1) := by
  obtain ⟨f, hf⟩ : ∃ f, L.length - a = f + 1 := ⟨L.length - a - 1, by omega⟩
  rw [kidsA, hf, refK, if_pos h, if_neg (by rw [hc]; exact Bool.false_ne_true), nodeA]
  have e : kidsA L (a + 1) (deep + 1) (clzF (tkAt L a)) [] = refK f L (a + 1) (deep + 1) (clzF (tkAt L a)) [] := refK_fuel _ _ _ _ _ _ _ (by omega) (by omega)
  split
  · exact refK_fuel _ _ _ _ _ _ _ (by omega) (by omega)
  · rw [e]
    have := refK_le f L (a + 1) (deep + 1) (clzF (tkAt L a)) []
    exact refK_fuel _ _ _ _ _ _ _ (by omega) (by omega)
theorem nodeA_gt {L : List Tk} {a deep : Nat} (h : a < L.length) : a < (nodeA L a deep).2 ∧ (nodeA L a deep).2 ≤ L.length := by
  rw [nodeA]
  split
  · exact ⟨Nat.lt_succ_self _, h⟩
  · have := refK_le (L.length - (a + 1)) L (a + 1) deep (clzF (tkAt L a)) []
    exact ⟨this.1, this.2 h⟩
theorem nszs_app (l m : List Nd) : nszs (l ++ m) = nszs l + nszs m := by
  induction l with
  | nil => simp [nszs]
  | cons n r ih => rw [List.cons_append, nszs, nszs, ih, Nat.add_assoc]
theorem addN_sz (deep : Nat) (acc : List Nd) (n : Nd) : nszs (addN deep acc n) ≤ nszs acc + nsz n := by
  rw [addN]
  split
  · rw [nszs_app, nszs, nszs]; omega
  · omega
theorem refK_sz : ∀ (f : Nat) (L : List Tk) (a deep : Nat) (c : ByteArray) (acc : List Nd), nszs (refK f L a deep c acc).1 + a ≤ nszs acc + (refK f L a deep c acc).2
  | 0, _, a, _, _, _ => Nat.le_refl _
  | f + 1, L, a, deep, c, acc => by
    rw [refK]
    split
    · split
      · dsimp only; omega
      · split
        · have h1 := refK_sz f L (a + 1) deep c (addN deep acc (.mk (tkAt L a) []))
          have h2 := addN_sz deep acc (.mk (tkAt L a) [])
          have h3 : nsz (.mk (tkAt L a) []) = 1 := rfl
          omega
        · have h0 := refK_sz f L (a + 1) (deep + 1) (clzF (tkAt L a)) []
          have h1 := refK_sz f L (refK f L (a + 1) (deep + 1) (clzF (tkAt L a)) []).2 deep c (addN deep acc (.mk (tkAt L a) (refK f L (a + 1) (deep + 1) (clzF (tkAt L a)) []).1))
          have h2 := addN_sz deep acc (.mk (tkAt L a) (refK f L (a + 1) (deep + 1) (clzF (tkAt L a)) []).1)
          have h3 := nsz_eq (.mk (tkAt L a) (refK f L (a + 1) (deep + 1) (clzF (tkAt L a)) []).1)
          simp only [Nd.kids] at h3
          have h4 : nszs ([] : List Nd) = 0 := rfl
          omega
    · dsimp only; omega
theorem nodeA_sz {L : List Tk} {a deep : Nat} : nsz (nodeA L a deep).1 + a ≤ (nodeA L a deep).2 := by
  rw [nodeA]
  split
  · show nsz (.mk (tkAt L a) []) + a ≤ a + 1
    have h3 : nsz (.mk (tkAt L a) []) = 1 := rfl
    omega
  · have h0 := refK_sz (L.length - (a + 1)) L (a + 1) deep (clzF (tkAt L a)) []
    have h3 := nsz_eq (.mk (tkAt L a) (kidsA L (a + 1) deep (clzF (tkAt L a)) []).1)
    simp only [Nd.kids] at h3
    have h4 : nszs ([] : List Nd) = 0 := rfl
    dsimp only
    rw [h3]
    simp only [kidsA]
    omega
/-- All nodes, from a place on. -/
def allR : Nat → List Tk → Nat → List Nd
  | 0, _, _ => []
  | f + 1, L, a => if a < L.length then (nodeA L a 1).1 :: allR f L (nodeA L a 1).2 else []
theorem allR_fuel : ∀ (f f' : Nat) (L : List Tk) (a : Nat), L.length - a ≤ f → L.length - a ≤ f' → allR f L a = allR f' L a
  | 0, 0, _, _, _, _ => rfl
  | 0, f' + 1, L, a, h, _ => by rw [allR, allR, if_neg (by omega)]
  | f + 1, 0, L, a, _, h => by rw [allR, allR, if_neg (by omega)]
  | f + 1, f' + 1, L, a, h, h' => by
    rw [allR, allR]
    split
    · rename_i hl
      have := (nodeA_gt (deep := 1) hl).1
      rw [allR_fuel f f' L _ (by omega) (by omega)]
    · rfl
def nodesA (L : List Tk) (a : Nat) : List Nd := allR (L.length - a) L a
theorem nodesA_end {L : List Tk} {a : Nat} (h : ¬ a < L.length) : nodesA L a = [] := by rw [nodesA, show L.length - a = 0 by omega, allR]
theorem nodesA_step {L : List Tk} {a : Nat} (h : a < L.length) : nodesA L a = (nodeA L a 1).1 :: nodesA L (nodeA L a 1).2 := by
  obtain ⟨f, hf⟩ : ∃ f, L.length - a = f + 1 := ⟨L.length - a - 1, by omega⟩
  have := (nodeA_gt (deep := 1) h).1
  rw [nodesA, hf, allR, if_pos h, nodesA]
  rw [allR_fuel f (L.length - (nodeA L a 1).2) L _ (by omega) (Nat.le_refl _)]
theorem allR_sz : ∀ (f : Nat) (L : List Tk) (a : Nat), a ≤ L.length → nszs (allR f L a) + a ≤ L.length
  | 0, L, a, h => by rw [allR]; show 0 + a ≤ _; omega
  | f + 1, L, a, h => by
    rw [allR]
    split
    · rename_i hl
      have h1 := nodeA_gt (deep := 1) hl
      have h2 := nodeA_sz (L := L) (a := a) (deep := 1)
      have h3 := allR_sz f L (nodeA L a 1).2 h1.2
      rw [nszs]; omega
    · show 0 + a ≤ _; omega
theorem nodesA_sz (L : List Tk) : nszs (nodesA L 0) ≤ L.length := by
  have := allR_sz (L.length - 0) L 0 (Nat.zero_le _)
  rw [nodesA]; omega
end Go.Proofs.YtiolnmfaeenlmaaGreatDoor

/- The reference's nodes: closes, node, Nodes walked. -/
namespace Go.Proofs.YtiolnmfaeenlmaaGreatDoor
open Go Go.RowKit

theorem closes_ok (t : Tk) : PCalls Tryz.prog 76 [tA t] (.val (.string (clzF t))) := by
  refine p_start Tryz.func76 Tryz.ntmps76 rfl rfl rfl fun S w => ?_
  repeat (first | refine awp_seq ?_ | refine thenA_normal ?_ | refine awp_block ?_ | refine a_region ?_ | refine r_done ?_ | (refine r_id ?_; first | refine r_ev tab_ok rfl rfl rfl rfl byE rfl ?_ | refine r_ld tab_ok rfl rfl rfl rfl rfl ?_ | refine r_wr tab_ok rfl rfl rfl rfl rfl ?_ | refine r_ev_cnd tab_ok rfl rfl rfl rfl rfl rfl byC (by first | exact fun _ => trivial | (intro h; simp at h; first | exact ⟨by omega, by omega⟩ | omega)) rfl ?_ | refine r_ld_cnd tab_ok rfl rfl rfl rfl rfl rfl byC rfl ?_ | refine r_and_cnd rfl rfl rfl rfl rfl rfl rfl rfl rfl rfl ?_ | refine r_or rfl rfl rfl rfl rfl rfl rfl rfl ?_))
  refine awp_cond rfl (fun h => ?_) (fun h => ?_)
  · repeat (first | refine awp_seq ?_ | refine thenA_normal ?_ | refine a_region ?_ | refine awp_ret ?_ | refine thenA_ret ?_ | refine blockA_ret ?_ | refine r_done ?_ | (refine r_id ?_; first | refine r_ev tab_ok rfl rfl rfl rfl byE rfl ?_) | refine ret1 byO rfl rfl rfl ?_)
    exact Sub.of_eq (by rw [clzF, if_pos h])
  · have h1 : ¬ ((decide (t.kind = 2) || (decide (t.kind = 19) && decide (t.text = ⟨#[40]⟩))) = true) := by rw [h]; exact Bool.false_ne_true
    repeat (first | refine awp_seq ?_ | refine thenA_normal ?_ | refine a_region ?_ | refine r_done ?_ | (refine r_id ?_; first | refine r_ev tab_ok rfl rfl rfl rfl byE rfl ?_ | refine r_ld tab_ok rfl rfl rfl rfl rfl ?_ | refine r_ev_cnd tab_ok rfl rfl rfl rfl rfl rfl byC (by first | exact fun _ => trivial | (intro h; simp at h; first | exact ⟨by omega, by omega⟩ | omega)) rfl ?_ | refine r_ld_cnd tab_ok rfl rfl rfl rfl rfl rfl byC rfl ?_ | refine r_and rfl rfl rfl rfl rfl rfl rfl rfl ?_))
    refine awp_cond rfl (fun h => ?_) (fun h => ?_)
    · repeat (first | refine awp_seq ?_ | refine thenA_normal ?_ | refine a_region ?_ | refine awp_ret ?_ | refine thenA_ret ?_ | refine blockA_ret ?_ | refine r_done ?_ | (refine r_id ?_; first | refine r_ev tab_ok rfl rfl rfl rfl byE rfl ?_) | refine ret1 byO rfl rfl rfl ?_)
      exact Sub.of_eq (by rw [clzF, if_neg h1, if_pos h])
    · have h2 : ¬ ((decide (t.kind = 19) && decide (t.text = ⟨#[91]⟩)) = true) := by rw [h]; exact Bool.false_ne_true
      repeat (first | refine awp_seq ?_ | refine thenA_normal ?_ | refine a_region ?_ | refine r_done ?_ | (refine r_id ?_; first | refine r_ev tab_ok rfl rfl rfl rfl byE rfl ?_ | refine r_ld tab_ok rfl rfl rfl rfl rfl ?_ | refine r_ev_cnd tab_ok rfl rfl rfl rfl rfl rfl byC (by first | exact fun _ => trivial | (intro h; simp at h; first | exact ⟨by omega, by omega⟩ | omega)) rfl ?_ | refine r_ld_cnd tab_ok rfl rfl rfl rfl rfl rfl byC rfl ?_ | refine r_and rfl rfl rfl rfl rfl rfl rfl rfl ?_))
      refine awp_cond rfl (fun h => ?_) (fun h => ?_)
      · repeat (first | refine awp_seq ?_ | refine thenA_normal ?_ | refine a_region ?_ | refine awp_ret ?_ | refine thenA_ret ?_ | refine blockA_ret ?_ | refine r_done ?_ | (refine r_id ?_; first | refine r_ev tab_ok rfl rfl rfl rfl byE rfl ?_) | refine ret1 byO rfl rfl rfl ?_)
        exact Sub.of_eq (by rw [clzF, if_neg h1, if_neg h2, if_pos h])
      · have h3 : ¬ ((decide (t.kind = 19) && decide (t.text = ⟨#[123]⟩)) = true) := by rw [h]; exact Bool.false_ne_true
        repeat (first | refine awp_seq ?_ | refine thenA_normal ?_ | refine a_region ?_ | refine awp_ret ?_ | refine awp_skip ?_ | refine r_done ?_ | (refine r_id ?_; first | refine r_ev tab_ok rfl rfl rfl rfl byE rfl ?_) | refine ret1 byO rfl rfl rfl ?_)
        exact Sub.of_eq (by rw [clzF, if_neg h1, if_neg h2, if_neg h3])
theorem tkAt_get {L : List Tk} {a : Nat} (h : a < L.length) : L[a] = tkAt L a := by rw [tkAt, List.getD_eq_getElem?_getD, List.getElem?_eq_getElem h]; rfl
structure KS (L : List Tk) (a0 deep : Nat) (c : ByteArray) where
  a : Nat
  acc : List Nd
  ha : a ≤ L.length
  hl : acc.length ≤ a
  hg : a0 ≤ a
  eq : kidsA L a deep c acc = kidsA L a0 deep c []
set_option maxHeartbeats 2000000 in
theorem node_ok (L : List Tk) (hL : L.length ≤ 549755813888) : ∀ (n a deep : Nat), L.length - a ≤ n → a < L.length → deep + L.length ≤ 1099511627776 + a → PCalls Tryz.prog 54 [.sl 6 (L.map tD), .val (.int .i64 a), .val (.int .i64 deep)] (.tup [nA (nodeA L a deep).1, .val (.int .i64 (nodeA L a deep).2)]) := by
  intro n
  induction n with
  | zero => intro a deep h1 h2 _; omega
  | succ n ih =>
    intro a deep h1 h2 hdp
    refine p_start Tryz.func54 Tryz.ntmps54 rfl rfl rfl fun S w => ?_
    have hlm : (L.map tD).length = L.length := List.length_map _
    have hat := tkAt_get h2
    rw [nodeA]
    generalize htk : tkAt L a = t at hat ⊢
    repeat (first | refine awp_seq ?_ | refine a_region ?_ | refine r_done ?_ | (refine r_id ?_; first | refine r_ev tab_ok rfl rfl rfl rfl byE rfl ?_ | refine r_idx tab_ok rfl rfl rfl rfl rfl rfl rfl (by first | exact ⟨by omega, by omega⟩ | (simp; omega)) rfl rfl ?_ | refine r_wr tab_ok rfl rfl rfl rfl rfl ?_ | refine r_st tab_ok rfl rfl rfl rfl ?_ | refine r_build tab_ok rfl rfl rfl rfl rfl rfl ?_))
    simp only [Int.toNat_natCast, hat]
    try simp only [Int.toNat_natCast, hat]
    refine r_call (closes_ok t) call76 rfl rfl ⟨Sub.refl _, trivial⟩ rfl rfl rfl rfl ?_
    repeat (first | refine awp_seq ?_ | refine thenA_normal ?_ | refine a_region ?_ | refine r_done ?_ | (refine r_id ?_; first | refine r_ev tab_ok rfl rfl rfl rfl byE rfl ?_))
    refine awp_cond_p rfl (fun hz => ?_) (fun hz => ?_)
    · rw [if_pos hz]
      repeat (first | refine awp_seq ?_ | refine thenA_normal ?_ | refine a_region ?_ | refine awp_ret ?_ | refine thenA_ret ?_ | refine r_done ?_ | (refine r_id ?_; first | refine r_ev tab_ok rfl rfl rfl rfl byE rfl ?_ | refine r_ld tab_ok rfl rfl rfl rfl rfl ?_ | refine r_st tab_ok rfl rfl rfl rfl ?_))
      exact ret2ct tab_ok byO rfl rfl rfl rfl rfl rfl rfl (Sub.agg (by repeat' first | exact trivial | exact Sub.refl _ | exact Sub.nil _ | refine Sub.agg ?_ | apply And.intro)) (Sub.refl _)
    · rw [if_neg hz]
      repeat (first | refine awp_seq ?_ | refine awp_block ?_ | refine awp_skip ?_)
      obtain ⟨c, hc⟩ : ∃ c, c = clzF t := ⟨_, rfl⟩
      rw [← hc] at hz ⊢
      refine a_loop (σ := KS L (a + 1) deep c) (fun x => [.box 49 [.val (.int .i64 0), .val (.string ⟨#[]⟩), .val (.int .i64 0), .val (.bool false), .val (.bool false), .val (.bool false), .val (.slice none 0 0)], .box 49 [.val (.int .i64 t.kind), .val (.string t.text), .val (.int .i64 t.int), .val (.bool t.whole), .val (.bool t.sign), .val (.bool t.id), .row 2 0], .row 0 49 7 (x.acc.map nD)])
        (fun x => [(0, .sl 6 (L.map tD)), (1, .val (.int .i64 x.a)), (2, .val (.int .i64 deep)), (6, .ptr 0 0), (8, .ptr 1 0), (9, .val (.string c))]) (fun x => L.length - x.a) ⟨a + 1, [], h2, Nat.zero_le _, Nat.le_refl _, rfl⟩ (fits_conv byV byV) ?_
      rintro ⟨k, acc, hk, hka, hkg, heq⟩
      dsimp only
      have ham : (acc.map nD).length = acc.length := List.length_map _
      repeat (first | refine awp_seq ?_ | refine thenA_normal ?_ | refine a_region ?_ | refine r_done ?_ | (refine r_id ?_; first | refine r_len tab_ok rfl rfl rfl rfl rfl rfl rfl ?_ | refine r_ev tab_ok rfl rfl rfl rfl byE rfl ?_))
      refine awp_cond_p rfl (fun hlt => ?_) (fun hge => ?_)
      · have hk' : k < L.length := by omega
        have hkt := tkAt_get hk'
        obtain ⟨u, hu⟩ : ∃ u, tkAt L k = u := ⟨_, rfl⟩
        rw [hu] at hkt
        repeat (first | refine awp_seq ?_ | refine thenA_normal ?_ | refine awp_block ?_ | refine a_region ?_ | refine awp_skip ?_ | refine r_done ?_ | (refine r_id ?_; first | refine r_ev tab_ok rfl rfl rfl rfl byE rfl ?_ | refine r_idx tab_ok rfl rfl rfl rfl rfl rfl rfl (by first | exact ⟨by omega, by omega⟩ | (simp; omega)) rfl rfl ?_ | refine r_ev_cnd tab_ok rfl rfl rfl rfl rfl rfl byC (by first | exact fun _ => trivial | (intro h; simp at h; first | exact ⟨by omega, by omega⟩ | omega)) rfl ?_ | refine r_idx_cnd tab_ok rfl rfl rfl rfl rfl rfl rfl byC rfl rfl (by exact ⟨by omega, by omega⟩) rfl rfl ?_ | refine r_and rfl rfl rfl rfl rfl rfl rfl rfl ?_))
        simp only [Int.toNat_natCast, hkt]
        try simp only [Int.toNat_natCast, hkt]
        refine awp_cond rfl (fun hcl => ?_) (fun hcl => ?_)
        · have hcb : clB1 (tkAt L k) c = true := by rw [hu]; exact hcl
          rw [kidsA_close hk' hcb] at heq
          rw [← heq]
          repeat (first | refine awp_seq ?_)
          refine awp_fits (s' := ⟨[.box 49 [.val (.int .i64 0), .val (.string ⟨#[]⟩), .val (.int .i64 0), .val (.bool false), .val (.bool false), .val (.bool false), .val (.slice none 0 0)], .box 49 [.val (.int .i64 t.kind), .val (.string t.text), .val (.int .i64 t.int), .val (.bool t.whole), .val (.bool t.sign), .val (.bool t.id), .sl 7 (acc.map nD)], .gone], [(1, .val (.int .i64 k)), (6, .ptr 0 0), (8, .ptr 1 0)]⟩) (fits_conv byV byV) ?_
          repeat (first | refine thenA_normal ?_ | refine a_region ?_ | refine awp_ret ?_ | refine thenA_ret ?_ | refine blockA_ret ?_ | refine r_done ?_ | (refine r_id ?_; first | refine r_ev tab_ok rfl rfl rfl rfl byE rfl ?_ | refine r_ld tab_ok rfl rfl rfl rfl rfl ?_ | refine r_st tab_ok rfl rfl rfl rfl ?_))
          exact ret2ct tab_ok byO rfl rfl rfl rfl rfl rfl rfl (Sub.agg (by repeat' first | exact trivial | exact Sub.refl _ | exact Sub.nil _ | refine Sub.agg ?_ | apply And.intro)) (Sub.refl _)
        · have hcb : clB1 (tkAt L k) c = false := by rw [hu]; exact hcl
          rw [kidsA_step hk' hcb] at heq
          have hgt := nodeA_gt (deep := deep + 1) hk'
          have hN := ih k (deep + 1) (by omega) hk' (by omega)
          obtain ⟨m, nx, hm⟩ : ∃ m nx, nodeA L k (deep + 1) = (m, nx) := ⟨_, _, rfl⟩
          rw [hm] at heq hgt hN
          dsimp only at heq hgt hN
          repeat (first | refine awp_seq ?_ | refine a_region ?_ | refine awp_skip ?_ | (refine r_id ?_; first | refine r_ev tab_ok rfl rfl rfl rfl byE rfl ?_))
          refine r_call hN call54 rfl rfl ⟨Sub.refl _, Sub.refl _, Sub.refl _, trivial⟩ rfl rfl rfl rfl ?_
          repeat (first | refine awp_seq ?_ | refine thenA_normal ?_ | refine a_region ?_ | refine r_done ?_ | (refine r_id ?_; first | refine r_ev tab_ok rfl rfl rfl rfl byE rfl ?_ | refine r_wr tab_ok rfl rfl rfl rfl rfl ?_ | refine r_st tab_ok rfl rfl rfl rfl ?_))
          refine awp_cond_p rfl (fun hd => ?_) (fun hd => ?_)
          · have had : addN deep acc m = acc ++ [m] := by rw [addN, if_pos (by omega)]
            have hmap : (acc ++ [m]).map nD = acc.map nD ++ [nF m] := by rw [List.map_append, ← nD_fun]; rfl
            rw [had] at heq
            repeat (first | refine thenA_normal ?_ | refine a_region ?_ | refine blockA_normal ?_ | refine r_done ?_ | (refine r_id ?_; first | refine r_ev tab_ok rfl rfl rfl rfl byE rfl ?_ | refine r_ld tab_ok rfl rfl rfl rfl rfl ?_ | refine r_st tab_ok rfl rfl rfl rfl ?_ | refine r_built tab_ok rfl rfl rfl rfl rfl rfl rfl rfl rfl ?_ | refine r_append tab_ok rfl rfl rfl rfl rfl rfl rfl rfl rfl (by first | omega | (simp; omega)) rfl ?_))
            refine ⟨⟨nx, acc ++ [m], hgt.2, by rw [List.length_append, List.length_singleton]; omega, by omega, heq⟩, by dsimp only; omega, ?_⟩
            dsimp only
            rw [hmap]
            exact fits_tr (s' := ⟨[.box 49 [.val (.int .i64 0), .val (.string ⟨#[]⟩), .val (.int .i64 0), .val (.bool false), .val (.bool false), .val (.bool false), .val (.slice none 0 0)], .box 49 [.val (.int .i64 t.kind), .val (.string t.text), .val (.int .i64 t.int), .val (.bool t.whole), .val (.bool t.sign), .val (.bool t.id), .row 2 2], .row 2 49 7 (acc.map nD ++ [nF m])], [(0, .sl 6 (L.map tD)), (1, .val (.int .i64 nx)), (2, .val (.int .i64 deep)), (6, .ptr 0 0), (8, .ptr 1 0), (9, .val (.string c))]⟩) (fits_drop 3 rfl rfl byK) (fits_conv byV byV)
          · have had : addN deep acc m = acc := by rw [addN, if_neg (by omega)]
            rw [had] at heq
            repeat (first | refine thenA_normal ?_ | refine a_region ?_ | refine blockA_normal ?_ | refine awp_skip ?_ | refine r_done ?_ | (refine r_id ?_; first | refine r_ev tab_ok rfl rfl rfl rfl byE rfl ?_))
            exact ⟨⟨nx, acc, hgt.2, by omega, by omega, heq⟩, by dsimp only; omega, fits_drop 3 rfl rfl byK⟩
      · have hke : k = L.length := by omega
        rw [kidsA_end (by omega)] at heq
        rw [← heq]
        repeat (first | refine awp_seq ?_ | refine awp_exit ?_)
        refine awp_fits (s' := ⟨[.box 49 [.val (.int .i64 0), .val (.string ⟨#[]⟩), .val (.int .i64 0), .val (.bool false), .val (.bool false), .val (.bool false), .val (.slice none 0 0)], .box 49 [.val (.int .i64 t.kind), .val (.string t.text), .val (.int .i64 t.int), .val (.bool t.whole), .val (.bool t.sign), .val (.bool t.id), .sl 7 (acc.map nD)], .gone], [(1, .val (.int .i64 k)), (6, .ptr 0 0), (8, .ptr 1 0)]⟩) (fits_conv byV byV) ?_
        repeat (first | refine thenA_normal ?_ | refine a_region ?_ | refine awp_ret ?_ | refine r_done ?_ | (refine r_id ?_; first | refine r_ev tab_ok rfl rfl rfl rfl byE rfl ?_ | refine r_ld tab_ok rfl rfl rfl rfl rfl ?_ | refine r_st tab_ok rfl rfl rfl rfl ?_))
        exact ret2ct tab_ok byO rfl rfl rfl rfl rfl rfl rfl (Sub.agg (by repeat' first | exact trivial | exact Sub.refl _ | exact Sub.nil _ | refine Sub.agg ?_ | apply And.intro)) (Sub.refl _)
structure AR (L : List Tk) where
  a : Nat
  acc : List Nd
  ha : a ≤ L.length
  hl : acc.length ≤ a
  eq : acc ++ nodesA L a = nodesA L 0
theorem nodes_ok (L : List Tk) (hL : L.length ≤ 549755813888) : PCalls Tryz.prog 31 [.sl 6 (L.map tD)] (.sl 7 ((nodesA L 0).map nF)) := by
  refine p_start Tryz.func31 Tryz.ntmps31 rfl rfl rfl fun S w => ?_
  have hlm : (L.map tD).length = L.length := List.length_map _
  repeat (first | refine awp_seq ?_ | refine thenA_normal ?_ | refine awp_block ?_ | refine a_region ?_ | refine r_done ?_ | (refine r_id ?_; first | refine r_ev tab_ok rfl rfl rfl rfl byE rfl ?_))
  refine a_loop (σ := AR L) (fun x => [.row 0 49 7 (x.acc.map nF)]) (fun x => [(0, .sl 6 (L.map tD)), (3, .row 0 0), (4, .val (.int .i64 x.a))]) (fun x => L.length - x.a) ⟨0, [], Nat.zero_le _, Nat.le_refl _, rfl⟩ (fits_conv byV byV) ?_
  rintro ⟨a, acc, ha, hl, heq⟩
  dsimp only
  have ham : (acc.map nF).length = acc.length := List.length_map _
  repeat (first | refine awp_seq ?_ | refine thenA_normal ?_ | refine a_region ?_ | refine r_done ?_ | (refine r_id ?_; first | refine r_len tab_ok rfl rfl rfl rfl rfl rfl rfl ?_ | refine r_ev tab_ok rfl rfl rfl rfl byE rfl ?_))
  refine awp_cond_p rfl (fun hlt => ?_) (fun hge => ?_)
  · have ha' : a < L.length := by omega
    have hN := node_ok L hL L.length a 1 (by omega) ha' (by omega)
    have hgt := nodeA_gt (deep := 1) ha'
    rw [nodesA_step ha', List.append_cons] at heq
    obtain ⟨m, nx, hm⟩ : ∃ m nx, nodeA L a 1 = (m, nx) := ⟨_, _, rfl⟩
    rw [hm] at heq hgt hN
    dsimp only at heq hgt hN
    have hmap : (acc ++ [m]).map nF = acc.map nF ++ [nF m] := List.map_append
    repeat (first | refine awp_seq ?_ | refine thenA_normal ?_ | refine awp_block ?_ | refine a_region ?_ | refine awp_skip ?_ | (refine r_id ?_; first | refine r_ev tab_ok rfl rfl rfl rfl byE rfl ?_))
    refine r_call hN call54 rfl rfl ⟨Sub.refl _, Sub.refl _, Sub.refl _, trivial⟩ rfl rfl rfl rfl ?_
    repeat (first | refine awp_seq ?_ | refine thenA_normal ?_ | refine a_region ?_ | refine blockA_normal ?_ | refine r_done ?_ | (refine r_id ?_; first | refine r_ev tab_ok rfl rfl rfl rfl byE rfl ?_ | refine r_ld tab_ok rfl rfl rfl rfl rfl ?_ | refine r_wr tab_ok rfl rfl rfl rfl rfl ?_ | refine r_st tab_ok rfl rfl rfl rfl ?_ | refine r_built tab_ok rfl rfl rfl rfl rfl rfl rfl rfl rfl ?_ | refine r_append tab_ok rfl rfl rfl rfl rfl rfl rfl rfl rfl (by first | omega | (simp; omega)) rfl ?_))
    refine ⟨⟨nx, acc ++ [m], hgt.2, by rw [List.length_append, List.length_singleton]; omega, heq⟩, by dsimp only; omega, ?_⟩
    dsimp only
    rw [hmap]
    exact fits_tr (s' := ⟨[.row 2 49 7 (acc.map nF ++ [nF m])], [(0, .sl 6 (L.map tD)), (3, .row 0 2), (4, .val (.int .i64 nx))]⟩) (fits_drop 1 rfl rfl byK) (fits_conv byV byV)
  · rw [nodesA_end (by omega), List.append_nil] at heq
    rw [heq]
    repeat (first | refine awp_seq ?_ | refine thenA_normal ?_ | refine a_region ?_ | refine awp_ret ?_ | refine awp_exit ?_ | refine r_done ?_ | (refine r_id ?_; first | refine r_ev tab_ok rfl rfl rfl rfl byE rfl ?_) | refine ret1_row byO rfl rfl rfl ?_)
    all_goals exact Sub.refl _
end Go.Proofs.YtiolnmfaeenlmaaGreatDoor

/- nest: Copy, Deep. -/
namespace Go.Proofs.YtiolnmfaeenlmaaGreatDoor
open Go Go.RowKit

set_option maxHeartbeats 1000000 in
theorem copy_ok (n : Nat) : ∀ l : List Nd, nszs l < n → n ≤ 1099511627776 → PCalls Tryz.prog 57 [.sl 7 (l.map nF)] (.sl 7 (l.map nF)) := by
  induction n with
  | zero => intro l h; omega
  | succ n ih =>
    intro l hn hb
    refine p_start Tryz.func57 Tryz.ntmps57 rfl rfl rfl fun S w => ?_
    have hll := nszs_len l
    have hlm : (l.map nF).length = l.length := List.length_map _
    repeat (first | refine awp_seq ?_ | refine a_region ?_ | refine r_done ?_ | (refine r_id ?_; first | refine r_ev tab_ok rfl rfl rfl rfl byE rfl ?_))
    refine r_rcall (cloneN_ok l (by omega)) call89 rfl rfl ⟨Sub.refl _, trivial⟩ rfl rfl rfl rfl rfl rfl ?_
    repeat (first | refine awp_seq ?_ | refine thenA_normal ?_ | refine awp_block ?_ | refine a_region ?_ | refine r_done ?_ | (refine r_id ?_; first | refine r_ev tab_ok rfl rfl rfl rfl byE rfl ?_ | refine r_ld tab_ok rfl rfl rfl rfl rfl ?_))
    refine a_loop (σ := {i : Nat // i ≤ l.length}) (fun x => [.row 0 49 7 (l.map nF)]) (fun x => [(3, .row 0 0), (7, .row 0 0), (8, .val (.int .i64 l.length)), (9, .val (.int .i64 x.1))]) (fun x => l.length - x.1) ⟨0, Nat.zero_le _⟩ (fits_conv byV ⟨c_row rfl rfl rfl, c_row rfl rfl rfl, c_sub rfl (Sub.of_eq (by rw [← hlm]; rfl)) rfl, c_sub rfl (Sub.refl _) rfl, trivial⟩) ?_
    rintro ⟨i, hi⟩
    dsimp only
    repeat (first | refine awp_seq ?_ | refine a_region ?_ | refine r_done ?_ | (refine r_id ?_; first | refine r_ev tab_ok rfl rfl rfl rfl byE rfl ?_))
    refine awp_cond_p rfl (fun hlt => ?_) (fun hge => ?_)
    · have hlt' : i < l.length := by omega
      have hi' : ((i : Nat) : Int).toNat < l.length := by simp only [Int.toNat_natCast]; exact hlt'
      have hk := nszs_at hlt'
      have ih' : PCalls Tryz.prog 57 [.sl 7 ((l[((i : Nat) : Int).toNat]'hi').kids.map nD)] (.sl 7 ((l[((i : Nat) : Int).toNat]'hi').kids.map nD)) := by
        rw [nD_fun]
        refine ih _ ?_ (by omega)
        simp only [Int.toNat_natCast]
        omega
      repeat (first | refine awp_seq ?_ | refine thenA_normal ?_ | refine awp_block ?_ | refine a_region ?_ | refine awp_skip ?_ | refine r_done ?_ | (refine r_id ?_; first | refine r_ev tab_ok rfl rfl rfl rfl byE rfl ?_ | refine r_idxr tab_ok rfl rfl rfl rfl rfl rfl rfl rfl (by first | exact ⟨by omega, by omega⟩ | (simp; omega)) rfl ?_ | refine r_fielde tab_ok rfl rfl rfl rfl rfl rfl rfl rfl ?_ | refine r_lde tab_ok rfl rfl rfl rfl rfl (by omega) rfl rfl rfl rfl ?_))
      refine r_call ih' call57 rfl rfl ⟨Sub.refl _, trivial⟩ rfl rfl rfl rfl ?_
      repeat (first | (refine r_id ?_; first | refine r_idxr tab_ok rfl rfl rfl rfl rfl rfl rfl rfl (by first | exact ⟨by omega, by omega⟩ | (simp; omega)) rfl ?_ | refine r_fielde tab_ok rfl rfl rfl rfl rfl rfl rfl rfl ?_))
      refine r_ste tab_ok (l[((i : Nat) : Int).toNat]'hi') rfl rfl rfl rfl rfl hi' rfl rfl rfl rfl rfl rfl ?_
      rw [List.set_getElem_self]
      repeat (first | refine thenA_normal ?_ | refine a_region ?_ | refine r_done ?_ | (refine r_id ?_; first | refine r_ev tab_ok rfl rfl rfl rfl byE rfl ?_))
      exact ⟨⟨i + 1, hlt'⟩, by dsimp only; omega, fits_conv byV byV⟩
    · repeat (first | refine awp_seq ?_ | refine thenA_normal ?_ | refine a_region ?_ | refine awp_ret ?_ | refine awp_exit ?_ | refine r_done ?_ | (refine r_id ?_; first | refine r_ev tab_ok rfl rfl rfl rfl byE rfl ?_) | refine ret1_row byO rfl rfl rfl ?_)
      exact Sub.refl _
mutual
def deepN : Nd → Nat
  | .mk _ k => 1 + deepF k
def deepF : List Nd → Nat
  | [] => 0
  | n :: r => max (deepN n) (deepF r)
end
mutual
theorem deepN_le : ∀ n : Nd, deepN n ≤ nsz n
  | .mk _ k => by
    have := deepF_le k
    rw [deepN, nsz]
    omega
theorem deepF_le : ∀ l : List Nd, deepF l ≤ nszs l
  | [] => Nat.le_refl _
  | n :: r => by
    have := deepN_le n
    have := deepF_le r
    rw [deepF, nszs]
    omega
end
theorem nszs_take : ∀ (l : List Nd) (i : Nat), nszs (l.take i) ≤ nszs l
  | [], i => by rw [List.take_nil]; exact Nat.le_refl _
  | n :: r, 0 => Nat.zero_le _
  | n :: r, i + 1 => by
    have := nszs_take r i
    rw [List.take_succ_cons, nszs, nszs]
    omega
end Go.Proofs.YtiolnmfaeenlmaaGreatDoor

/- nest: Same, the document's and the program's. -/
namespace Go.Proofs.YtiolnmfaeenlmaaGreatDoor
open Go Go.RowKit

mutual
def sameN : Nd → Nd → Bool
  | .mk t k, .mk u j => eqT t u && sameL k j
def sameL : List Nd → List Nd → Bool
  | [], [] => true
  | a :: r, b :: s => sameN a b && sameL r s
  | [], _ :: _ => false
  | _ :: _, [] => false
end
mutual
theorem sameN_self : ∀ a : Nd, sameN a a = true
  | .mk t k => by rw [sameN, eqT_self, sameL_self k]; rfl
theorem sameL_self : ∀ l : List Nd, sameL l l = true
  | [] => rfl
  | a :: r => by rw [sameL, sameN_self a, sameL_self r]; rfl
end
mutual
theorem sameN_eq : ∀ a b : Nd, sameN a b = true → a = b
  | .mk t k, .mk u j, h => by
    rw [sameN, Bool.and_eq_true] at h
    rw [eqT_eq h.1, sameL_eq k j h.2]
theorem sameL_eq : ∀ l m : List Nd, sameL l m = true → l = m
  | [], [], _ => rfl
  | a :: r, b :: s, h => by
    rw [sameL, Bool.and_eq_true] at h
    rw [sameN_eq a b h.1, sameL_eq r s h.2]
  | [], _ :: _, h => by rw [sameL] at h; cases h
  | _ :: _, [], h => by rw [sameL] at h; cases h
end
theorem sameN_of (a b : Nd) : sameN a b = (eqT a.tok b.tok && sameL a.kids b.kids) := by
  cases a; cases b
  rw [sameN]
  rfl
theorem sameL_no {l m : List Nd} (h : l ≠ m) : sameL l m = false := by
  cases e : sameL l m with
  | false => rfl
  | true => exact absurd (sameL_eq l m e) h
set_option maxHeartbeats 2000000 in
theorem refSame_ok (n : Nat) : ∀ l m : List Nd, nszs l < n → n ≤ 1099511627776 → PCalls Tryz.prog 21 [.sl 7 (l.map nF), .sl 7 (m.map nF)] (.val (.bool (sameL l m))) := by
  induction n with
  | zero => intro l m h; omega
  | succ n ih =>
    intro l m hn hb
    refine p_start Tryz.func21 Tryz.ntmps21 rfl rfl rfl fun S w => ?_
    have hll := nszs_len l
    have hlm : (l.map nF).length = l.length := List.length_map _
    have hmm : (m.map nF).length = m.length := List.length_map _
    repeat (first | refine awp_seq ?_ | refine thenA_normal ?_ | refine a_region ?_ | refine r_done ?_ | (refine r_id ?_; first | refine r_len tab_ok rfl rfl rfl rfl rfl rfl rfl ?_ | refine r_ev tab_ok rfl rfl rfl rfl byE rfl ?_))
    refine awp_cond rfl (fun h => ?_) (fun h => ?_)
    · have hne : l ≠ m := by
        rintro rfl
        simp at h
      rw [sameL_no hne]
      repeat (first | refine awp_seq ?_ | refine thenA_normal ?_ | refine a_region ?_ | refine awp_ret ?_ | refine thenA_ret ?_ | refine r_done ?_ | (refine r_id ?_; first | refine r_ev tab_ok rfl rfl rfl rfl byE rfl ?_) | refine ret1 byO rfl rfl rfl ?_)
      exact Sub.refl _
    have hlen : l.length = m.length := by simp at h; omega
    repeat (first | refine awp_seq ?_ | refine thenA_normal ?_ | refine awp_block ?_ | refine a_region ?_ | refine awp_skip ?_ | refine r_done ?_ | (refine r_id ?_; first | refine r_ev tab_ok rfl rfl rfl rfl byE rfl ?_))
    refine a_loop (σ := {i : Nat // i ≤ l.length ∧ l.take i = m.take i}) (fun _ => []) (fun x => [(0, .sl 7 (l.map nF)), (1, .sl 7 (m.map nF)), (5, .val (.int .i64 x.1))]) (fun x => l.length - x.1) ⟨0, Nat.zero_le _, rfl⟩ (fits_conv byV byV) ?_
    rintro ⟨i, hi, hte⟩
    dsimp only
    repeat (first | refine awp_seq ?_ | refine thenA_normal ?_ | refine a_region ?_ | refine r_done ?_ | (refine r_id ?_; first | refine r_len tab_ok rfl rfl rfl rfl rfl rfl rfl ?_ | refine r_ev tab_ok rfl rfl rfl rfl byE rfl ?_))
    refine awp_cond_p rfl (fun hlt => ?_) (fun hge => ?_)
    · have hlt' : i < l.length := by omega
      have hi' : ((i : Nat) : Int).toNat < l.length := by simp only [Int.toNat_natCast]; exact hlt'
      have him' : ((i : Nat) : Int).toNat < m.length := by omega
      have hk := nszs_at hlt'
      have ih' : PCalls Tryz.prog 21 [.sl 7 ((l[((i : Nat) : Int).toNat]'hi').kids.map nD), .sl 7 ((m[((i : Nat) : Int).toNat]'him').kids.map nD)] (.val (.bool (sameL (l[((i : Nat) : Int).toNat]'hi').kids (m[((i : Nat) : Int).toNat]'him').kids))) := by
        rw [nD_fun]
        exact ih _ _ (by simp only [Int.toNat_natCast]; omega) (by omega)
      repeat (first | refine awp_seq ?_ | refine awp_block ?_ | refine a_draw1 mixed_ok (by kernel_rfl) ?_ | refine awp_skip ?_ | (refine r_id ?_; first | refine r_ev tab_ok rfl rfl rfl rfl byE rfl ?_ | refine r_idx tab_ok rfl rfl rfl rfl rfl rfl rfl (by first | exact ⟨by omega, by omega⟩ | (simp; omega)) rfl rfl ?_))
      refine r_neqT (c := (l[((i : Nat) : Int).toNat]'hi').tok) (d := (m[((i : Nat) : Int).toNat]'him').tok) rfl rfl rfl rfl rfl rfl rfl ?_
      repeat (first | (refine r_id ?_; first | refine r_ev tab_ok rfl rfl rfl rfl byE rfl ?_ | refine r_ev_cnd tab_ok rfl rfl rfl rfl rfl rfl byC (by first | exact fun _ => trivial | (intro h; simp at h; first | exact ⟨by omega, by omega⟩ | omega)) rfl ?_ | refine r_idx_cnd tab_ok rfl rfl rfl rfl rfl rfl rfl byC rfl rfl (by exact ⟨by omega, by omega⟩) rfl rfl ?_))
      refine r_call_cnd (fun _ => ih') call21 rfl rfl rfl rfl byC ⟨Sub.refl _, Sub.refl _, trivial⟩ rfl rfl rfl rfl ?_
      repeat (first | refine thenA_normal ?_ | refine r_done' ?_ | (refine r_id ?_; first | refine r_ev_cnd tab_ok rfl rfl rfl rfl rfl rfl byC (by first | exact fun _ => trivial | (intro h; simp at h; first | exact ⟨by omega, by omega⟩ | omega)) rfl ?_ | refine r_or rfl rfl rfl rfl rfl rfl rfl rfl ?_))
      have hs := sameN_of (l[((i : Nat) : Int).toNat]'hi') (m[((i : Nat) : Int).toNat]'him')
      refine awp_cond rfl (fun h2 => ?_) (fun h2 => ?_)
      · have h3 : sameN (l[((i : Nat) : Int).toNat]'hi') (m[((i : Nat) : Int).toNat]'him') = false := by
          rw [hs]
          revert h2
          cases eqT (l[((i : Nat) : Int).toNat]'hi').tok (m[((i : Nat) : Int).toNat]'him').tok <;> cases sameL (l[((i : Nat) : Int).toNat]'hi').kids (m[((i : Nat) : Int).toNat]'him').kids <;> simp
        have hne : l ≠ m := by
          rintro rfl
          rw [sameN_self] at h3
          cases h3
        rw [sameL_no hne]
        repeat (first | refine awp_seq ?_ | refine thenA_normal ?_ | refine a_region ?_ | refine awp_ret ?_ | refine thenA_ret ?_ | refine blockA_ret ?_ | refine r_done ?_ | (refine r_id ?_; first | refine r_ev tab_ok rfl rfl rfl rfl byE rfl ?_) | refine ret1 byO rfl rfl rfl ?_)
        exact Sub.refl _
      · have h3 : sameN (l[((i : Nat) : Int).toNat]'hi') (m[((i : Nat) : Int).toNat]'him') = true := by
          rw [hs]
          revert h2
          cases eqT (l[((i : Nat) : Int).toNat]'hi').tok (m[((i : Nat) : Int).toNat]'him').tok <;> cases sameL (l[((i : Nat) : Int).toNat]'hi').kids (m[((i : Nat) : Int).toNat]'him').kids <;> simp
        have h4 := sameN_eq _ _ h3
        simp only [Int.toNat_natCast] at h4
        repeat (first | refine thenA_normal ?_ | refine a_region ?_ | refine awp_skip ?_ | refine r_done ?_ | (refine r_id ?_; first | refine r_ev tab_ok rfl rfl rfl rfl byE rfl ?_))
        exact ⟨⟨i + 1, hlt', by rw [List.take_succ_eq_append_getElem hlt', List.take_succ_eq_append_getElem (by omega), hte, h4]⟩, by dsimp only; omega, fits_conv byV byV⟩
    · have e1 : l.take i = l := List.take_of_length_le (by omega)
      have e2 : m.take i = m := List.take_of_length_le (by omega)
      rw [e1, e2] at hte
      subst hte
      rw [sameL_self]
      repeat (first | refine awp_seq ?_ | refine thenA_normal ?_ | refine a_region ?_ | refine awp_ret ?_ | refine awp_exit ?_ | refine r_done ?_ | (refine r_id ?_; first | refine r_ev tab_ok rfl rfl rfl rfl byE rfl ?_) | refine ret1 byO rfl rfl rfl ?_)
      exact Sub.refl _
end Go.Proofs.YtiolnmfaeenlmaaGreatDoor

/- nest: the program's Same. -/
namespace Go.Proofs.YtiolnmfaeenlmaaGreatDoor
open Go Go.RowKit

end Go.Proofs.YtiolnmfaeenlmaaGreatDoor

/- nest: Flat, Trim. -/
namespace Go.Proofs.YtiolnmfaeenlmaaGreatDoor
open Go Go.RowKit

mutual
def flatN : Nd → List Tk
  | .mk t k => t :: (if opB t = true then flatF k ++ [tkK 20 (clF t)] else [])
def flatF : List Nd → List Tk
  | [] => []
  | n :: r => flatN n ++ flatF r
end
mutual
theorem flatN_len : ∀ n : Nd, (flatN n).length ≤ 2 * nsz n
  | .mk t k => by
    have := flatF_len k
    rw [flatN, nsz]
    split
    · rw [List.length_cons, List.length_append, List.length_singleton]; omega
    · rw [List.length_singleton]; omega
theorem flatF_len : ∀ l : List Nd, (flatF l).length ≤ 2 * nszs l
  | [] => Nat.le_refl _
  | n :: r => by
    have := flatN_len n
    have := flatF_len r
    rw [flatF, nszs, List.length_append]
    omega
end
theorem fits_trans {cx : Cx} {s s' s'' : AS} (h : Fits cx s s') (k : Fits cx s' s'') : Fits cx s s'' := fun a w hs => k a w (h a w hs)
def trimB (l : List Nd) : List Nd := (l.reverse.dropWhile whN).reverse
def trimF (l : List Nd) : List Nd := trimB (l.dropWhile whN)
theorem trimB_go {m : List Nd} {a : Nd} (h : whN a = true) : trimB (m ++ [a]) = trimB m := by simp [trimB, h]
theorem trimB_no {m : List Nd} {a : Nd} (h : whN a = false) : trimB (m ++ [a]) = m ++ [a] := by simp [trimB, h]
theorem nszs_append (l m : List Nd) : nszs (l ++ m) = nszs l + nszs m := by
  induction l with
  | nil => simp [nszs]
  | cons n r ih => rw [List.cons_append, nszs, nszs, ih]; omega
theorem snoc_or {α : Type} (l : List α) : l = [] ∨ ∃ q z, l = q ++ [z] := by
  rcases List.eq_nil_or_concat l with h | ⟨q, z, h⟩
  · exact .inl h
  · exact .inr ⟨q, z, by rw [h, List.concat_eq_append]⟩
set_option maxHeartbeats 2000000 in
theorem trim_ok (n : Nat) (l : List Nd) (hn : nszs l < n) (hb : n ≤ 1099511627776) : PCalls Tryz.prog 37 [.sl 7 (l.map nF)] (.sl 7 ((trimF l).map nF)) := by
  refine p_start Tryz.func37 Tryz.ntmps37 rfl rfl rfl fun S w => ?_
  repeat (first | refine awp_seq ?_ | refine awp_block ?_ | refine a_region ?_ | refine r_done ?_ | (refine r_id ?_; first | refine r_ev tab_ok rfl rfl rfl rfl byE rfl ?_))
  refine a_loop (σ := {m : List Nd // nszs m ≤ nszs l ∧ m.dropWhile whN = l.dropWhile whN}) (fun _ => []) (fun x => [(0, .sl 7 (x.1.map nF))]) (fun x => x.1.length) ⟨l, Nat.le_refl _, rfl⟩ (fits_conv byV byV) ?_
  rintro ⟨m, hm, hd⟩
  dsimp only
  have hml := nszs_len m
  have hmm : (m.map nF).length = m.length := List.length_map _
  rcases m with _ | ⟨a, r⟩
  · have hr : trimB [] = trimF l := by rw [trimF, ← hd]; rfl
    repeat (first | refine awp_seq ?_ | refine thenA_normal ?_ | refine awp_block ?_ | refine a_region ?_ | refine awp_exit ?_ | refine r_done ?_ | (refine r_id ?_; first | refine r_len tab_ok rfl rfl rfl rfl rfl rfl rfl ?_ | refine r_ev tab_ok rfl rfl rfl rfl byE rfl ?_ | refine r_ev_cnd tab_ok rfl rfl rfl rfl rfl rfl byC (by first | exact fun _ => trivial | (intro h; simp at h; first | exact ⟨by omega, by omega⟩ | omega)) rfl ?_ | refine r_pick_f rfl rfl rfl rfl rfl rfl rfl ?_ | refine r_off rfl rfl rfl rfl rfl rfl ?_) | refine awp_cond_f rfl ?_)
    refine a_loop (σ := {k : List Nd // nszs k ≤ nszs l ∧ trimB k = trimF l}) (fun _ => []) (fun x => [(0, .sl 7 (x.1.map nF))]) (fun x => x.1.length) ⟨[], Nat.zero_le _, hr⟩ (fits_conv byV byV) ?_
    rintro ⟨k, hk, hkt⟩
    dsimp only
    have hkl := nszs_len k
    have hkm : (k.map nF).length = k.length := List.length_map _
    rcases snoc_or k with rfl | ⟨q, z, rfl⟩
    · repeat (first | refine awp_seq ?_ | refine thenA_normal ?_ | refine a_region ?_ | refine awp_exit ?_ | refine r_done ?_ | (refine r_id ?_; first | refine r_len tab_ok rfl rfl rfl rfl rfl rfl rfl ?_ | refine r_ev tab_ok rfl rfl rfl rfl byE rfl ?_ | refine r_len_cnd tab_ok rfl rfl rfl rfl rfl rfl (by first | exact fun _ => rfl | exact cs1) rfl rfl rfl ?_ | refine r_ev_cnd tab_ok rfl rfl rfl rfl rfl rfl byC (by first | exact fun _ => trivial | (intro h; simp at h; first | exact ⟨by omega, by omega⟩ | omega)) rfl ?_ | refine r_pick_f rfl rfl rfl rfl rfl rfl rfl ?_ | refine r_off rfl rfl rfl rfl rfl rfl ?_) | refine awp_cond_f rfl ?_)
      refine r_call (copy_ok n [] (by rw [nszs]; omega) hb) call57 rfl rfl ⟨Sub.refl _, trivial⟩ rfl rfl rfl rfl ?_
      repeat (first | refine thenA_normal ?_ | refine awp_ret ?_ | refine r_done ?_ | (refine r_id ?_; first | refine r_ev tab_ok rfl rfl rfl rfl byE rfl ?_) | refine ret1 byO rfl rfl rfl ?_)
      exact Sub.of_eq (by rw [← hkt]; rfl)
    · have hql : (q ++ [z]).length = q.length + 1 := by rw [List.length_append, List.length_singleton]
      have hlt : ((((q ++ [z]).length : Nat) : Int) - 1).toNat < (q ++ [z]).length := by omega
      have hz : (q ++ [z])[((((q ++ [z]).length : Nat) : Int) - 1).toNat]'hlt = z := by
        have e : ((((q ++ [z]).length : Nat) : Int) - 1).toNat = q.length := by omega
        simp only [e]
        simp
      have hqs := nszs_append q [z]
      repeat (first | refine awp_seq ?_ | refine a_region ?_ | (refine r_id ?_; first | refine r_len tab_ok rfl rfl rfl rfl rfl rfl rfl ?_ | refine r_ev tab_ok rfl rfl rfl rfl byE rfl ?_ | refine r_len_cnd tab_ok rfl rfl rfl rfl rfl rfl (by first | exact fun _ => rfl | exact cs1) rfl rfl rfl ?_ | refine r_ev_cnd tab_ok rfl rfl rfl rfl rfl rfl byC (by first | exact fun _ => trivial | (intro h; simp at h; first | exact ⟨by omega, by omega⟩ | omega)) rfl ?_ | refine r_idx_cnd tab_ok rfl rfl rfl rfl rfl rfl rfl byC rfl rfl (by exact ⟨by omega, by omega⟩) rfl rfl ?_))
      refine r_call_cnd (fun _ => White_ok ((q ++ [z])[((((q ++ [z]).length : Nat) : Int) - 1).toNat]'hlt)) call40 rfl rfl rfl rfl byC (by exact ⟨Sub.refl _, trivial⟩) rfl rfl rfl rfl ?_
      repeat (first | refine thenA_normal ?_ | refine r_done ?_ | (refine r_id ?_; first | refine r_and rfl rfl rfl rfl rfl rfl rfl rfl ?_))
      rw [hz]
      refine awp_cond rfl (fun h2 => ?_) (fun h2 => ?_)
      · have hwz : whN z = true := by
          rw [Bool.and_eq_true] at h2
          exact h2.2
        have eq1 : ((q ++ [z]).take ((((q ++ [z]).length : Nat) : Int) - 1).toNat).drop 0 = q := by
          have e : ((((q ++ [z]).length : Nat) : Int) - 1).toNat = q.length := by omega
          rw [e, List.drop_zero, List.take_left]
        repeat (first | refine thenA_normal ?_ | refine awp_block ?_ | refine a_region ?_ | refine blockA_normal ?_ | refine awp_skip ?_ | refine r_done ?_ | (refine r_id ?_; first | refine r_len tab_ok rfl rfl rfl rfl rfl rfl rfl ?_ | refine r_ev tab_ok rfl rfl rfl rfl byE rfl ?_ | refine r_cut tab_ok rfl rfl rfl rfl rfl rfl rfl rfl (by first | exact ⟨by simp, by simp; omega, by simp⟩ | (simp; omega)) rfl ?_))
        refine ⟨⟨q, by omega, by rw [← hkt, trimB_go hwz]⟩, by dsimp only; omega, fits_conv byV ⟨c_sub rfl (Sub.of_eq (by rw [← congrArg (List.map nF) eq1]; rfl)) rfl, trivial⟩⟩
      · have hwz : whN z = false := by
          have hp : decide (0 < (((q ++ [z]).length : Nat) : Int)) = true := by rw [decide_eq_true_eq]; omega
          rw [hp, Bool.true_and] at h2
          exact h2
        rw [trimB_no hwz] at hkt
        repeat (first | refine awp_seq ?_ | refine a_region ?_ | refine awp_exit ?_ | (refine r_id ?_; first | refine r_ev tab_ok rfl rfl rfl rfl byE rfl ?_))
        refine r_call (copy_ok n (q ++ [z]) (by omega) hb) call57 rfl rfl ⟨Sub.refl _, trivial⟩ rfl rfl rfl rfl ?_
        repeat (first | refine thenA_normal ?_ | refine awp_ret ?_ | refine r_done ?_ | (refine r_id ?_; first | refine r_ev tab_ok rfl rfl rfl rfl byE rfl ?_) | refine ret1 byO rfl rfl rfl ?_)
        exact Sub.of_eq (by rw [hkt])
  · have hpos : 0 < (a :: r).length := Nat.succ_pos _
    repeat (first | refine awp_seq ?_ | refine a_region ?_ | (refine r_id ?_; first | refine r_len tab_ok rfl rfl rfl rfl rfl rfl rfl ?_ | refine r_ev tab_ok rfl rfl rfl rfl byE rfl ?_ | refine r_ev_cnd tab_ok rfl rfl rfl rfl rfl rfl byC (by first | exact fun _ => trivial | (intro h; simp at h; first | exact ⟨by omega, by omega⟩ | omega)) rfl ?_ | refine r_idx_cnd tab_ok rfl rfl rfl rfl rfl rfl rfl byC rfl rfl (by exact ⟨by omega, by omega⟩) rfl rfl ?_))
    refine r_call_cnd (fun _ => White_ok a) call40 rfl rfl rfl rfl byC ⟨Sub.refl _, trivial⟩ rfl rfl rfl rfl ?_
    repeat (first | refine thenA_normal ?_ | refine r_done ?_ | (refine r_id ?_; first | refine r_and rfl rfl rfl rfl rfl rfl rfl rfl ?_))
    refine awp_cond rfl (fun h => ?_) (fun h => ?_)
    · have hwa : whN a = true := by
        rw [Bool.and_eq_true] at h
        exact h.2
      have eq1 : ((a :: r).take ((((a :: r).length : Nat) : Int)).toNat).drop 1 = r := by
        rw [Int.toNat_natCast, List.take_length]
        rfl
      have hns : nszs (a :: r) = nsz a + nszs r := rfl
      repeat (first | refine thenA_normal ?_ | refine awp_block ?_ | refine a_region ?_ | refine blockA_normal ?_ | refine awp_skip ?_ | refine r_done ?_ | (refine r_id ?_; first | refine r_ev tab_ok rfl rfl rfl rfl byE rfl ?_ | refine r_cut tab_ok rfl rfl rfl rfl rfl rfl rfl rfl (by first | exact ⟨by simp, by simp; omega, by simp⟩ | (simp; omega)) rfl ?_))
      refine ⟨⟨r, by omega, by rw [← hd, List.dropWhile_cons_of_pos hwa]⟩, by dsimp only; rw [List.length_cons]; omega, fits_conv byV ⟨c_sub rfl (Sub.of_eq (by rw [← congrArg (List.map nF) eq1]; rfl)) rfl, trivial⟩⟩
    · have hwa : whN a = false := by
        have hp : decide (0 < (((a :: r).length : Nat) : Int)) = true := by rw [decide_eq_true_eq]; omega
        rw [hp, Bool.true_and] at h
        exact h
      have hr : trimB (a :: r) = trimF l := by rw [trimF, ← hd, List.dropWhile_cons_of_neg (by rw [hwa]; decide)]
      repeat (first | refine awp_seq ?_ | refine awp_block ?_ | refine awp_exit ?_)
      refine a_loop (σ := {k : List Nd // nszs k ≤ nszs l ∧ trimB k = trimF l}) (fun _ => []) (fun x => [(0, .sl 7 (x.1.map nF))]) (fun x => x.1.length) ⟨a :: r, hm, hr⟩ (fits_conv byV byV) ?_
      rintro ⟨k, hk, hkt⟩
      dsimp only
      have hkl := nszs_len k
      have hkm : (k.map nF).length = k.length := List.length_map _
      rcases snoc_or k with rfl | ⟨q, z, rfl⟩
      · repeat (first | refine awp_seq ?_ | refine thenA_normal ?_ | refine a_region ?_ | refine awp_exit ?_ | refine r_done ?_ | (refine r_id ?_; first | refine r_len tab_ok rfl rfl rfl rfl rfl rfl rfl ?_ | refine r_ev tab_ok rfl rfl rfl rfl byE rfl ?_ | refine r_len_cnd tab_ok rfl rfl rfl rfl rfl rfl (by first | exact fun _ => rfl | exact cs1) rfl rfl rfl ?_ | refine r_ev_cnd tab_ok rfl rfl rfl rfl rfl rfl byC (by first | exact fun _ => trivial | (intro h; simp at h; first | exact ⟨by omega, by omega⟩ | omega)) rfl ?_ | refine r_pick_f rfl rfl rfl rfl rfl rfl rfl ?_ | refine r_off rfl rfl rfl rfl rfl rfl ?_) | refine awp_cond_f rfl ?_)
        refine r_call (copy_ok n [] (by rw [nszs]; omega) hb) call57 rfl rfl ⟨Sub.refl _, trivial⟩ rfl rfl rfl rfl ?_
        repeat (first | refine thenA_normal ?_ | refine awp_ret ?_ | refine r_done ?_ | (refine r_id ?_; first | refine r_ev tab_ok rfl rfl rfl rfl byE rfl ?_) | refine ret1 byO rfl rfl rfl ?_)
        exact Sub.of_eq (by rw [← hkt]; rfl)
      · have hql : (q ++ [z]).length = q.length + 1 := by rw [List.length_append, List.length_singleton]
        have hlt : ((((q ++ [z]).length : Nat) : Int) - 1).toNat < (q ++ [z]).length := by omega
        have hz : (q ++ [z])[((((q ++ [z]).length : Nat) : Int) - 1).toNat]'hlt = z := by
          have e : ((((q ++ [z]).length : Nat) : Int) - 1).toNat = q.length := by omega
          simp only [e]
          simp
        have hqs := nszs_append q [z]
        repeat (first | refine awp_seq ?_ | refine a_region ?_ | (refine r_id ?_; first | refine r_len tab_ok rfl rfl rfl rfl rfl rfl rfl ?_ | refine r_ev tab_ok rfl rfl rfl rfl byE rfl ?_ | refine r_len_cnd tab_ok rfl rfl rfl rfl rfl rfl (by first | exact fun _ => rfl | exact cs1) rfl rfl rfl ?_ | refine r_ev_cnd tab_ok rfl rfl rfl rfl rfl rfl byC (by first | exact fun _ => trivial | (intro h; simp at h; first | exact ⟨by omega, by omega⟩ | omega)) rfl ?_ | refine r_idx_cnd tab_ok rfl rfl rfl rfl rfl rfl rfl byC rfl rfl (by exact ⟨by omega, by omega⟩) rfl rfl ?_))
        refine r_call_cnd (fun _ => White_ok ((q ++ [z])[((((q ++ [z]).length : Nat) : Int) - 1).toNat]'hlt)) call40 rfl rfl rfl rfl byC (by exact ⟨Sub.refl _, trivial⟩) rfl rfl rfl rfl ?_
        repeat (first | refine thenA_normal ?_ | refine r_done ?_ | (refine r_id ?_; first | refine r_and rfl rfl rfl rfl rfl rfl rfl rfl ?_))
        rw [hz]
        refine awp_cond rfl (fun h2 => ?_) (fun h2 => ?_)
        · have hwz : whN z = true := by
            rw [Bool.and_eq_true] at h2
            exact h2.2
          have eq1 : ((q ++ [z]).take ((((q ++ [z]).length : Nat) : Int) - 1).toNat).drop 0 = q := by
            have e : ((((q ++ [z]).length : Nat) : Int) - 1).toNat = q.length := by omega
            rw [e, List.drop_zero, List.take_left]
          repeat (first | refine thenA_normal ?_ | refine awp_block ?_ | refine a_region ?_ | refine blockA_normal ?_ | refine awp_skip ?_ | refine r_done ?_ | (refine r_id ?_; first | refine r_len tab_ok rfl rfl rfl rfl rfl rfl rfl ?_ | refine r_ev tab_ok rfl rfl rfl rfl byE rfl ?_ | refine r_cut tab_ok rfl rfl rfl rfl rfl rfl rfl rfl (by first | exact ⟨by simp, by simp; omega, by simp⟩ | (simp; omega)) rfl ?_))
          refine ⟨⟨q, by omega, by rw [← hkt, trimB_go hwz]⟩, by dsimp only; omega, fits_conv byV ⟨c_sub rfl (Sub.of_eq (by rw [← congrArg (List.map nF) eq1]; rfl)) rfl, trivial⟩⟩
        · have hwz : whN z = false := by
            have hp : decide (0 < (((q ++ [z]).length : Nat) : Int)) = true := by rw [decide_eq_true_eq]; omega
            rw [hp, Bool.true_and] at h2
            exact h2
          rw [trimB_no hwz] at hkt
          repeat (first | refine awp_seq ?_ | refine a_region ?_ | refine awp_exit ?_ | (refine r_id ?_; first | refine r_ev tab_ok rfl rfl rfl rfl byE rfl ?_))
          refine r_call (copy_ok n (q ++ [z]) (by omega) hb) call57 rfl rfl ⟨Sub.refl _, trivial⟩ rfl rfl rfl rfl ?_
          repeat (first | refine thenA_normal ?_ | refine awp_ret ?_ | refine r_done ?_ | (refine r_id ?_; first | refine r_ev tab_ok rfl rfl rfl rfl byE rfl ?_) | refine ret1 byO rfl rfl rfl ?_)
          exact Sub.of_eq (by rw [hkt])
end Go.Proofs.YtiolnmfaeenlmaaGreatDoor

/- The reference's declarations, in plain words; Block, Trim, may walked. -/
namespace Go.Proofs.YtiolnmfaeenlmaaGreatDoor
open Go Go.RowKit

def ndAt (l : List Nd) (i : Nat) : Nd := l.getD i (.mk tk0 [])
theorem ndAt_get {l : List Nd} {i : Nat} (h : i < l.length) : l[i] = ndAt l i := by rw [ndAt, List.getD_eq_getElem?_getD, List.getElem?_eq_getElem h]; rfl
def blkB (n : Nd) : Bool := decide (n.tok.kind = 19) && decide (n.tok.text = ⟨#[123]⟩)
def semB (n : Nd) : Bool := decide (n.tok.kind = 17)
/-- The first place from i on where p does not hold. -/
def runE (p : Nd → Bool) (l : List Nd) (i : Nat) : Nat := i + ((l.drop i).takeWhile p).length
theorem runE_ge (p : Nd → Bool) (l : List Nd) (i : Nat) : i ≤ runE p l i := Nat.le_add_right _ _
theorem tw_le {α : Type} (p : α → Bool) : ∀ l : List α, (l.takeWhile p).length ≤ l.length
  | [] => Nat.le_refl _
  | a :: r => by
    rw [List.takeWhile_cons]
    split
    · rw [List.length_cons, List.length_cons]; have := tw_le p r; omega
    · exact Nat.zero_le _
theorem runE_le {p : Nd → Bool} {l : List Nd} {i : Nat} (h : i ≤ l.length) : runE p l i ≤ l.length := by
  have := tw_le p (l.drop i)
  rw [List.length_drop] at this
  rw [runE]; omega
theorem tw_at {α : Type} (p : α → Bool) : ∀ (l : List α) (j : Nat), j < (l.takeWhile p).length → ∃ a, l[j]? = some a ∧ p a = true
  | [], j, h => by simp at h
  | a :: r, 0, h => by
    rw [List.takeWhile_cons] at h
    split at h
    · rename_i hp; exact ⟨a, rfl, hp⟩
    · simp at h
  | a :: r, j + 1, h => by
    rw [List.takeWhile_cons] at h
    split at h
    · rw [List.length_cons] at h
      obtain ⟨b, h1, h2⟩ := tw_at p r j (by omega)
      exact ⟨b, h1, h2⟩
    · simp at h
theorem tw_end {α : Type} (p : α → Bool) : ∀ (l : List α) (a : α), l[(l.takeWhile p).length]? = some a → p a = false
  | [], a, h => by simp at h
  | b :: r, a, h => by
    rw [List.takeWhile_cons] at h
    split at h
    · rw [List.length_cons, List.getElem?_cons_succ] at h
      exact tw_end p r a h
    · rename_i hp
      rw [List.length_nil, List.getElem?_cons_zero] at h
      cases h
      simpa using hp
theorem runE_lt {p : Nd → Bool} {l : List Nd} {i k : Nat} (h1 : i ≤ k) (h2 : k < runE p l i) : k < l.length ∧ p (ndAt l k) = true := by
  rw [runE] at h2
  obtain ⟨a, h3, h4⟩ := tw_at p (l.drop i) (k - i) (by omega)
  rw [List.getElem?_drop, show i + (k - i) = k by omega] at h3
  obtain ⟨h5, h6⟩ := List.getElem?_eq_some_iff.1 h3
  exact ⟨h5, by rw [← ndAt_get h5, h6]; exact h4⟩
theorem runE_at {p : Nd → Bool} {l : List Nd} {i : Nat} (h : runE p l i < l.length) : p (ndAt l (runE p l i)) = false := by
  have h3 : l[runE p l i]? = some (ndAt l (runE p l i)) := by rw [List.getElem?_eq_getElem h, ndAt_get h]
  refine tw_end p (l.drop i) _ ?_
  rw [List.getElem?_drop]
  exact h3
theorem runE_more {p : Nd → Bool} {l : List Nd} {i k : Nat} (h1 : i ≤ k) (h2 : k ≤ runE p l i) (h3 : k < l.length) (h4 : p (ndAt l k) = true) : k < runE p l i := by
  rcases Nat.lt_or_eq_of_le h2 with h | h
  · exact h
  · subst h
    rw [runE_at h3] at h4; cases h4
theorem runE_stop {p : Nd → Bool} {l : List Nd} {i k : Nat} (h1 : i ≤ k) (h2 : k ≤ runE p l i) (h3 : k < l.length → p (ndAt l k) = false) : k = runE p l i := by
  rcases Nat.lt_or_eq_of_le h2 with h | h
  · obtain ⟨h5, h6⟩ := runE_lt h1 h
    rw [h3 h5] at h6; cases h6
  · exact h
/-- The places of what is not White. -/
def nwI (l : List Nd) : List Nat := (List.range l.length).filter fun i => !whN (ndAt l i)
def exclB (t : Tk) : Bool := decide (t.kind = 9) && decide (t.text = ⟨#[33]⟩)
def impS : ByteArray := ⟨#[105, 109, 112, 111, 114, 116, 97, 110, 116]⟩
def impB (t : Tk) : Bool := decide (t.kind = 1) && decide (lowS t.text = impS)
def valF (l0 : List Nd) : List Nd × Bool :=
  if (nwI (trimF l0)).length < 2 then (trimF l0, false)
  else if exclB (ndAt (trimF l0) ((nwI (trimF l0)).getD ((nwI (trimF l0)).length - 2) 0)).tok && impB (ndAt (trimF l0) ((nwI (trimF l0)).getD ((nwI (trimF l0)).length - 1) 0)).tok then (trimF ((trimF l0).take ((nwI (trimF l0)).getD ((nwI (trimF l0)).length - 2) 0)), true)
  else (trimF l0, false)
def notB (t : Tk) : Bool := decide (t.kind = 6) || decide (t.kind = 8) || decide (t.kind = 20) || exclB t
def mayF (l : List Nd) : Bool := l.all (fun n => !notB n.tok) && decide (0 < l.length)
structure Dc where
  name : ByteArray
  value : List Nd
  imp : Bool
def dashB (s : ByteArray) : Bool := decide (2 ≤ s.size) && decide (s.extract 0 2 = ⟨#[45, 45]⟩)
def nameS (s : ByteArray) : ByteArray := if dashB s then s else lowS s
/-- One that is said from i to k. -/
def oneD (l : List Nd) (i k : Nat) : List Dc :=
  if decide ((ndAt l i).tok.kind = 1) && (decide (runE whN (l.take k) (i + 1) < k) && decide ((ndAt l (runE whN (l.take k) (i + 1))).tok.kind = 16)) then
    (if mayF (valF ((l.take k).drop (runE whN (l.take k) (i + 1) + 1))).1 then [⟨nameS (ndAt l i).tok.text, (valF ((l.take k).drop (runE whN (l.take k) (i + 1) + 1))).1, (valF ((l.take k).drop (runE whN (l.take k) (i + 1) + 1))).2⟩] else [])
  else []
def decR : Nat → List Nd → Nat → List Dc
  | 0, _, _ => []
  | f + 1, l, i =>
    if i < l.length then
      if decide ((ndAt l i).tok.kind = 13) || decide ((ndAt l i).tok.kind = 17) then decR f l (i + 1)
      else if (ndAt l i).tok.kind = 3 then decR f l (runE (fun n => !semB n && !blkB n) l i + 1)
      else oneD l i (runE (fun n => !semB n) l i) ++ decR f l (runE (fun n => !semB n) l i)
    else []
theorem runE_gt {p : Nd → Bool} {l : List Nd} {i : Nat} (h : i < l.length) (hp : p (ndAt l i) = true) : i < runE p l i := runE_more (Nat.le_refl _) (runE_ge _ _ _) h hp
theorem decR_fuel : ∀ (f f' : Nat) (l : List Nd) (i : Nat), l.length - i ≤ f → l.length - i ≤ f' → decR f l i = decR f' l i
  | 0, 0, _, _, _, _ => rfl
  | 0, f' + 1, l, i, h, _ => by rw [decR, decR, if_neg (by omega)]
  | f + 1, 0, l, i, _, h => by rw [decR, decR, if_neg (by omega)]
  | f + 1, f' + 1, l, i, h, h' => by
    rw [decR, decR]
    split
    · rename_i hl
      split
      · exact decR_fuel f f' l _ (by omega) (by omega)
      · rename_i h1
        split
        · have := runE_ge (fun n => !semB n && !blkB n) l i
          exact decR_fuel f f' l _ (by omega) (by omega)
        · have hs : (fun n => !semB n) (ndAt l i) = true := by
            simp only [Bool.or_eq_true, decide_eq_true_eq, not_or] at h1
            simp only [semB, decide_eq_false h1.2]; rfl
          have := runE_gt (p := fun n => !semB n) hl hs
          rw [decR_fuel f f' l _ (by omega) (by omega)]
    · rfl
def decA (l : List Nd) (i : Nat) : List Dc := decR (l.length - i) l i
theorem decA_end {l : List Nd} {i : Nat} (h : ¬ i < l.length) : decA l i = [] := by rw [decA, show l.length - i = 0 by omega, decR]
theorem decA_step {l : List Nd} {i : Nat} (h : i < l.length) : decA l i =
    if decide ((ndAt l i).tok.kind = 13) || decide ((ndAt l i).tok.kind = 17) then decA l (i + 1)
    else if (ndAt l i).tok.kind = 3 then decA l (runE (fun n => !semB n && !blkB n) l i + 1)
    else oneD l i (runE (fun n => !semB n) l i) ++ decA l (runE (fun n => !semB n) l i) := by
  obtain ⟨f, hf⟩ : ∃ f, l.length - i = f + 1 := ⟨l.length - i - 1, by omega⟩
  rw [decA, hf, decR, if_pos h]
  split
  · exact decR_fuel _ _ _ _ (by omega) (Nat.le_refl _)
  · rename_i h1
    split
    · have := runE_ge (fun n => !semB n && !blkB n) l i
      exact decR_fuel _ _ _ _ (by omega) (Nat.le_refl _)
    · have hs : (fun n => !semB n) (ndAt l i) = true := by
        simp only [Bool.or_eq_true, decide_eq_true_eq, not_or] at h1
        simp only [semB, decide_eq_false h1.2]; rfl
      have := runE_gt (p := fun n => !semB n) h hs
      rw [decR_fuel f (l.length - runE (fun n => !semB n) l i) l _ (by omega) (Nat.le_refl _)]; rfl
def dcD (d : Dc) : D := .ag [.val (.string d.name), .sl 7 (d.value.map nF), .val (.bool d.imp)]
theorem rblock_ok (n : Nd) : PCalls Tryz.prog 35 [nA n] (.val (.bool (blkB n))) := by
  refine p_start Tryz.func35 Tryz.ntmps35 rfl rfl rfl fun S w => ?_
  repeat (first | refine awp_seq ?_ | refine thenA_normal ?_ | refine a_region ?_ | refine awp_ret ?_ | refine r_done ?_ | (refine r_id ?_; first | refine r_ev tab_ok rfl rfl rfl rfl byE rfl ?_ | refine r_ld tab_ok rfl rfl rfl rfl rfl ?_ | refine r_wr tab_ok rfl rfl rfl rfl rfl ?_ | refine r_ev_cnd tab_ok rfl rfl rfl rfl rfl rfl byC (by first | exact fun _ => trivial | (intro h; simp at h; first | exact ⟨by omega, by omega⟩ | omega)) rfl ?_ | refine r_ld_cnd tab_ok rfl rfl rfl rfl rfl rfl byC rfl ?_ | refine r_and rfl rfl rfl rfl rfl rfl rfl rfl ?_) | refine ret1 byO rfl rfl rfl ?_)
  exact Sub.refl _
theorem rmay_ok (l : List Nd) (hl : l.length ≤ 1099511627776) : PCalls Tryz.prog 48 [.sl 7 (l.map nF)] (.val (.bool (mayF l))) := by
  refine p_start Tryz.func48 Tryz.ntmps48 rfl rfl rfl fun S w => ?_
  have hlm : (l.map nF).length = l.length := List.length_map _
  repeat (first | refine awp_seq ?_ | refine thenA_normal ?_ | refine awp_block ?_ | refine a_region ?_ | refine r_done ?_ | (refine r_id ?_; first | refine r_ev tab_ok rfl rfl rfl rfl byE rfl ?_))
  refine a_loop (σ := {i : Nat // i ≤ l.length ∧ (l.take i).all (fun n => !notB n.tok) = true}) (fun _ => []) (fun x => [(0, .sl 7 (l.map nF)), (3, .val (.int .i64 x.1))]) (fun x => l.length - x.1) ⟨0, Nat.zero_le _, rfl⟩ (fits_of rfl byK) ?_
  rintro ⟨i, hi, hall⟩
  dsimp only
  repeat (first | refine awp_seq ?_ | refine thenA_normal ?_ | refine a_region ?_ | refine r_done ?_ | (refine r_id ?_; first | refine r_len tab_ok rfl rfl rfl rfl rfl rfl rfl ?_ | refine r_ev tab_ok rfl rfl rfl rfl byE rfl ?_))
  refine awp_cond_p rfl (fun hlt => ?_) (fun hge => ?_)
  · have hi' : i < l.length := by omega
    repeat (first | refine awp_seq ?_ | refine thenA_normal ?_ | refine awp_block ?_ | refine a_region ?_ | refine awp_skip ?_ | refine r_done ?_ | (refine r_id ?_; first | refine r_ev tab_ok rfl rfl rfl rfl byE rfl ?_ | refine r_ld tab_ok rfl rfl rfl rfl rfl ?_ | refine r_idx tab_ok rfl rfl rfl rfl rfl rfl rfl (by first | exact ⟨by omega, by omega⟩ | (simp; omega)) rfl rfl ?_ | refine r_wr tab_ok rfl rfl rfl rfl rfl ?_ | refine r_st tab_ok rfl rfl rfl rfl ?_ | refine r_ev_cnd tab_ok rfl rfl rfl rfl rfl rfl byC (by first | exact fun _ => trivial | (intro h; simp at h; first | exact ⟨by omega, by omega⟩ | omega)) rfl ?_ | refine r_ld_cnd tab_ok rfl rfl rfl rfl rfl rfl byC rfl ?_ | refine r_and_cnd rfl rfl rfl rfl rfl rfl rfl rfl rfl rfl ?_ | refine r_or rfl rfl rfl rfl rfl rfl rfl rfl ?_))
    simp only [Int.toNat_natCast]
    refine awp_cond rfl (fun hc => ?_) (fun hc => ?_)
    · have : mayF l = false := by
        rw [mayF, Bool.and_eq_false_iff]
        left
        rw [List.all_eq_false]
        refine ⟨l[i], List.getElem_mem hi', ?_⟩
        rw [show notB l[i].tok = true from hc]; decide
      rw [this]
      repeat (first | refine awp_seq ?_ | refine thenA_normal ?_ | refine a_region ?_ | refine awp_ret ?_ | refine thenA_ret ?_ | refine blockA_ret ?_ | refine r_done ?_ | (refine r_id ?_; first | refine r_ev tab_ok rfl rfl rfl rfl byE rfl ?_) | refine ret1 byO rfl rfl rfl ?_)
      exact Sub.refl _
    · have h2 : (l.take (i + 1)).all (fun n => !notB n.tok) = true := by
        rw [List.take_add_one, List.getElem?_eq_getElem hi', List.all_append, hall, Bool.true_and]
        show ((!notB l[i].tok) && true) = true
        rw [show notB l[i].tok = false from hc]; rfl
      repeat (first | refine thenA_normal ?_ | refine a_region ?_ | refine awp_skip ?_ | refine r_done ?_ | (refine r_id ?_; first | refine r_ev tab_ok rfl rfl rfl rfl byE rfl ?_))
      exact ⟨⟨i + 1, by omega, h2⟩, by dsimp only; omega, fits_drop 0 rfl rfl byK⟩
  · have : i = l.length := by omega
    subst this
    rw [List.take_length] at hall
    repeat (first | refine awp_seq ?_ | refine thenA_normal ?_ | refine a_region ?_ | refine awp_ret ?_ | refine awp_exit ?_ | refine r_done ?_ | (refine r_id ?_; first | refine r_len tab_ok rfl rfl rfl rfl rfl rfl rfl ?_ | refine r_ev tab_ok rfl rfl rfl rfl byE rfl ?_) | refine ret1 byO rfl rfl rfl ?_)
    exact Sub.of_eq (by rw [mayF, hall, Bool.true_and]; congr 2; exact decide_eq_decide.2 (by omega))
end Go.Proofs.YtiolnmfaeenlmaaGreatDoor

/- The engine: a drawn region with two new variables side by side: both orders of the two are walked. -/
namespace Go.Proofs.YtiolnmfaeenlmaaGreatDoor
open Go Go.RowKit

section
variable {P : Program} {ops : Array Oper} {N : Nat} {fl : Nat → Nat} {K : List AB → (Nat → AV) → Prop}
def ordOK2 (ops : Array Oper) (fl : List Nat) (ms : List Nat) (c : Nat) : Bool :=
  (List.range ops.size).all fun i => match ops[i]? with
    | none => true
    | some o => (o.after.all fun e => !Region.binds .any e || Nat.blt e.on i) && (ms.getD i 0 == ancOf (ms.take i) o) &&
      (Nat.ble i (c + 1) || (Nat.testBit (ms.getD i 0) c && Nat.testBit (ms.getD i 0) (c + 1))) &&
      (List.range i).all fun j => Nat.testBit (ms.getD i 0) j || (j == c && i == c + 1) || (match ops[j]? with
        | none => true
        | some o' => slotsApart ops o' o && memApart (fl.getD j 0) (fl.getD i 0))
theorem ordOK2_at {flags ms : List Nat} {c : Nat} (h : ordOK2 ops flags ms c = true) {i : Nat} {o : Oper} (ho : ops[i]? = some o) :
    (∀ e ∈ o.after, Region.binds .any e = true → e.on < i) ∧ ms.getD i 0 = ancOf (ms.take i) o ∧ (∀ j oj, j < i → ops[j]? = some oj → ¬ (j = c ∧ i = c + 1) → Nat.testBit (ms.getD i 0) j = true ∨ (slotsApart ops oj o = true ∧ memApart (flags.getD j 0) (flags.getD i 0) = true)) ∧ (c + 1 < i → Nat.testBit (ms.getD i 0) c = true) := by
  have hlt : i < ops.size := (Array.getElem?_eq_some_iff.1 ho).1
  have h1 := List.all_eq_true.1 h i (List.mem_range.2 hlt)
  rw [ho] at h1
  simp only [Bool.and_eq_true, beq_iff_eq] at h1
  obtain ⟨⟨⟨h2, h3⟩, h6⟩, h4⟩ := h1
  refine ⟨fun e he hbd => ?_, h3, fun j oj hj hoj hne => ?_, fun hci => ?_⟩
  · have := Array.all_eq_true_iff_forall_mem.1 h2 e he
    rw [hbd] at this
    simpa [Nat.blt_eq] using this
  · have h5 := List.all_eq_true.1 h4 j (List.mem_range.2 hj)
    rw [hoj] at h5
    simp only [Bool.or_eq_true, Bool.and_eq_true, beq_iff_eq] at h5
    rcases h5 with (h5 | h5) | h5
    · exact .inl h5
    · exact absurd h5 hne
    · exact .inr h5
  · simp only [Bool.or_eq_true, Bool.and_eq_true, Nat.ble_eq] at h6
    rcases h6 with h6 | h6
    · omega
    · exact h6.1
theorem anc_listed2 {flags ms : List Nat} {c : Nat} (h : ordOK2 ops flags ms c = true) {listed : Array Bool} (hc : Closed ops listed) : ∀ (i : Nat) (o : Oper), ops[i]? = some o →
    (∀ e ∈ o.after, Region.binds .any e = true → listed.getD e.on false = true) → ∀ j, Nat.testBit (ms.getD i 0) j = true → listed.getD j false = true := by
  intro i
  induction i using Nat.strongRecOn with
  | _ i ih =>
    intro o ho hall j hj
    obtain ⟨h1, h2, _⟩ := ordOK2_at h ho
    rw [h2] at hj
    obtain ⟨e, he, hb, h3⟩ := ancOf_bit hj
    have hl := hall e he hb
    rcases h3 with h3 | h3
    · rw [← h3]; exact hl
    · have hlt := h1 e he hb
      have hi : i < ops.size := (Array.getElem?_eq_some_iff.1 ho).1
      have ho' : ops[e.on]? = some ops[e.on] := Array.getElem?_eq_getElem (by omega)
      have h4 : (ms.take i).getD e.on 0 = ms.getD e.on 0 := by
        rw [List.getD_eq_getElem?_getD, List.getD_eq_getElem?_getD, List.getElem?_take, if_pos hlt]
      rw [h4] at h3
      exact ih e.on hlt _ ho' (hc e.on _ ho' hl) j h3
theorem RunF.append {A B : List Nat} : ∀ {M : List AB} {F : Nat → AV}, RunF P ops N fl (fun M F => RunF P ops N fl K B M F) A M F → RunF P ops N fl K (A ++ B) M F := by
  induction A with
  | nil => exact fun h => h
  | cons i A ih =>
    rintro M F ⟨o, M', out, h1, h2, h3, h4⟩
    exact ⟨o, M', out, h1, h2, h3, ih h4⟩
theorem RunF.imp {K' : List AB → (Nat → AV) → Prop} (hk : ∀ M F, K M F → K' M F) {A : List Nat} : ∀ {M : List AB} {F : Nat → AV}, RunF P ops N fl K A M F → RunF P ops N fl K' A M F := by
  induction A with
  | nil => exact fun h => hk _ _ h
  | cons i A ih =>
    rintro M F ⟨o, M', out, h1, h2, h3, h4⟩
    exact ⟨o, M', out, h1, h2, h3, ih h4⟩
/-- The order of the rest: one of the two is done. -/
theorem RunF.anyC {cx : Cx} (hP : cx.P = P) (hN : cx.N = N) {Q : Exit → Act → World → Prop} {flags ms : List Nat} {c : Nat} (hok : ordOK2 ops flags ms c = true) (hfl : ∀ i, fl i = flags.getD i 0)
    (hQ : ∀ M F a w, K M F → SatF cx M F a w → Q .normal a w) : ∀ (fuel : Nat) (L : List Nat) (listed : Array Bool) (M : List AB) (F : Nat → AV) (a : Act) (w : World),
    L.length = fuel → listed.size = ops.size → List.Pairwise (· < ·) L → (∀ j, j < ops.size → (listed.getD j false = false ↔ j ∈ L)) → (∀ j ∈ L, j < ops.size) → Closed ops listed →
    ((¬ (c ∈ L ∧ c + 1 ∈ L) ∧ RunF P ops N fl K L M F) ∨ ∃ A B, L = A ++ c :: (c + 1) :: B ∧ (∀ j ∈ A, j < c) ∧ (∀ j ∈ B, c + 1 < j) ∧ RunF P ops N fl (fun M F => RunF P ops N fl K (c :: (c + 1) :: B) M F ∧ RunF P ops N fl K ((c + 1) :: c :: B) M F) A M F) → SatF cx M F a w → wpAnyIn (Fen cx.L) 0 P .any ops Q fuel listed a w := by
  subst hP
  intro fuel
  induction fuel with
  | zero =>
    intro L listed M F a w hlen hsz _ hL _ _ h hs
    have : L = [] := List.eq_nil_of_length_eq_zero hlen
    subst this
    refine ⟨?_, hQ M F a w (h.elim (fun h => h.2) (fun ⟨A, B, e, _⟩ => by cases A <;> cases e)) hs⟩
    rw [List.eq_nil_iff_forall_not_mem]
    intro j hj
    obtain ⟨h1, o, h2, _⟩ := mem_ready.1 hj
    have hlt : j < ops.size := (Array.getElem?_eq_some_iff.1 h2).1
    have : listed.getD j false = false := by
      simp [hsz, hlt] at h1 ⊢; exact h1
    exact absurd ((hL j hlt).1 this) (by simp)
  | succ fuel ih =>
    intro L listed M F a w hlen hsz hp hL hlt hc h hs
    refine ⟨fun hr => ?_, fun i hi => ?_⟩
    · match L, hlen with
      | i :: L', _ =>
        have hi : i < ops.size := hlt i (by simp)
        have ho : ops[i]? = some ops[i] := Array.getElem?_eq_getElem hi
        have : i ∈ Region.ready .any ops listed := by
          refine mem_ready.2 ⟨?_, _, ho, fun e he hbd => ?_⟩
          · have := (hL i hi).2 (by simp)
            simp [hsz, hi] at this ⊢; exact this
          · have h1 := (ordOK2_at hok ho).1 e he hbd
            cases hl : listed.getD e.on false with
            | true => rfl
            | false =>
              have := (hL e.on (by omega)).1 hl
              rcases List.mem_cons.1 this with h2 | h2
              · omega
              · have := (List.pairwise_cons.1 hp).1 _ h2; omega
        rw [hr] at this
        cases this
    · obtain ⟨h1, o, h2, h3⟩ := mem_ready.1 hi
      have hi' : i < ops.size := (Array.getElem?_eq_some_iff.1 h2).1
      have hun : listed.getD i false = false := by simp [hsz, hi'] at h1 ⊢; exact h1
      have hmem := (hL i hi').1 hun
      have hanc := anc_listed2 hok hc i o h2 h3
      -- what is ahead of i, and may be crossed
      have easy : ∀ j, j ∈ L → j < i → ¬ (j = c ∧ i = c + 1) → ∀ oj oi, ops[j]? = some oj → ops[i]? = some oi → Easy ops fl j i oj oi := fun j hj hji hne oj oi hoj hoi => by
        rw [h2] at hoi; cases hoi
        have hjn : listed.getD j false = false := (hL j (hlt j hj)).2 hj
        rcases (ordOK2_at hok h2).2.2.1 j oj hji hoj hne with h4 | ⟨h4, h5⟩
        · rw [hanc j h4] at hjn; cases hjn
        · obtain ⟨s1, s2, s3⟩ := slotsApart_spec h4
          exact ⟨s1, s2, s3, by rw [hfl, hfl]; exact memApart_spec h5⟩
      -- the state behind i
      have go : ∀ L1 L2, L = L1 ++ i :: L2 → (∃ M' out, dstB o.dst N = true ∧ StepK cx.P ops (fl i) o M F M' out ∧ ((¬ (c ∈ L1 ++ L2 ∧ c + 1 ∈ L1 ++ L2) ∧ RunF cx.P ops N fl K (L1 ++ L2) M' (upd F o.dst out)) ∨ ∃ A B, L1 ++ L2 = A ++ c :: (c + 1) :: B ∧ (∀ j ∈ A, j < c) ∧ (∀ j ∈ B, c + 1 < j) ∧ RunF cx.P ops N fl (fun M F => RunF cx.P ops N fl K (c :: (c + 1) :: B) M F ∧ RunF cx.P ops N fl K ((c + 1) :: c :: B) M F) A M' (upd F o.dst out))) →
          wpOpIn (Fen cx.L) 0 cx.P ops Q i (wpAnyIn (Fen cx.L) 0 cx.P .any ops Q fuel (listed.setIfInBounds i true)) a w := by
        rintro L1 L2 rfl ⟨M', out, k2, k3, k4⟩
        unfold wpOpIn
        rw [h2]
        refine StepG.sat hN k2 k3.g hs fun a' w' hs' => ?_
        refine ih (L1 ++ L2) _ _ _ a' w' (by simp at hlen ⊢; omega) (by simp [hsz]) ?_ (fun j hj => ?_) (fun j hj => hlt j (by simp at hj ⊢; rcases hj with h | h <;> simp [h])) ?_ k4 hs'
        · exact hp.sublist (by simp)
        · by_cases hji : i = j
          · subst hji
            have hno : i ∉ L1 ++ L2 := by
              have := List.pairwise_append.1 hp
              rw [List.mem_append]
              rintro (h4 | h4)
              · have := this.2.2 i h4 i (by simp); omega
              · have := (List.pairwise_cons.1 this.2.1).1 i h4; omega
            simp [hsz, hj, hno]
          · rw [getD_set_ne false hji, hL j hj]
            simp [Ne.symm hji]
        · intro j oj hoj hl e he hb
          by_cases hji : i = j
          · subst hji
            rw [h2] at hoj; cases hoj
            exact getD_set_true (h3 e he hb)
          · rw [getD_set_ne false hji] at hl
            exact getD_set_true (hc j oj hoj hl e he hb)
      have step : ∀ {K' : List AB → (Nat → AV) → Prop} {L1 L2 : List Nat}, RunF cx.P ops N fl K' (i :: (L1 ++ L2)) M F → ∃ M' out, dstB o.dst N = true ∧ StepK cx.P ops (fl i) o M F M' out ∧ RunF cx.P ops N fl K' (L1 ++ L2) M' (upd F o.dst out) := fun ⟨o', M', out, k1, k2, k3, k4⟩ => by
        rw [h2] at k1; cases k1
        exact ⟨M', out, k2, k3, k4⟩
      rcases h with ⟨hno, h⟩ | ⟨A, B, rfl, hA, hB, h⟩
      · obtain ⟨L1, L2, rfl⟩ := List.append_of_mem hmem
        have hfront := RunF.front (fun j hj oj oi hoj hoi => easy j (by simp [hj]) ((List.pairwise_append.1 hp).2.2 j hj i (by simp)) (fun ⟨e1, e2⟩ => hno ⟨by rw [← e1]; simp [hj], by rw [← e2]; simp⟩) oj oi hoj hoi) h
        obtain ⟨M', out, k2, k3, k4⟩ := step hfront
        exact go L1 L2 rfl ⟨M', out, k2, k3, .inl ⟨fun ⟨e1, e2⟩ => hno ⟨by simp at e1 ⊢; rcases e1 with e | e <;> simp [e], by simp at e2 ⊢; rcases e2 with e | e <;> simp [e]⟩, k4⟩⟩
      · rcases List.mem_append.1 hmem with hm | hm
        · obtain ⟨A1, A2, rfl⟩ := List.append_of_mem hm
          have hic := hA i hm
          have hfront := RunF.front (fun j hj oj oi hoj hoi => easy j (by simp [hj]) (by
            have := List.pairwise_append.1 hp
            exact (List.pairwise_append.1 this.1).2.2 j hj i (by simp)) (fun ⟨_, e2⟩ => by omega) oj oi hoj hoi) h
          obtain ⟨M', out, k2, k3, k4⟩ := step hfront
          exact go A1 (A2 ++ c :: (c + 1) :: B) (by simp) ⟨M', out, k2, k3, .inr ⟨A1 ++ A2, B, by simp, fun j hj => hA j (by simp at hj ⊢; rcases hj with h | h <;> simp [h]), hB, k4⟩⟩
        · rcases List.mem_cons.1 hm with rfl | hm
          · have h5 := RunF.append (RunF.imp (fun _ _ h => h.1) h)
            have hfront := RunF.front (fun j hj oj oi hoj hoi => easy j (by simp [hj]) (hA j hj) (fun ⟨_, e2⟩ => by omega) oj oi hoj hoi) h5
            obtain ⟨M', out, k2, k3, k4⟩ := step hfront
            refine go A ((i + 1) :: B) rfl ⟨M', out, k2, k3, .inl ⟨fun ⟨e1, _⟩ => ?_, k4⟩⟩
            rcases List.mem_append.1 e1 with e | e
            · have := hA _ e; omega
            · rcases List.mem_cons.1 e with e | e
              · omega
              · have := hB _ e; omega
          · rcases List.mem_cons.1 hm with rfl | hm
            · have h5 := RunF.append (RunF.imp (fun _ _ h => h.2) h)
              have hfront := RunF.front (fun j hj oj oi hoj hoi => easy j (by simp [hj]) (by have := hA j hj; omega) (fun ⟨e1, _⟩ => by have := hA j hj; omega) oj oi hoj hoi) h5
              obtain ⟨M', out, k2, k3, k4⟩ := step hfront
              refine go (A ++ [c]) B (by simp) ⟨M', out, k2, k3, .inl ⟨fun ⟨_, e2⟩ => ?_, by rw [List.append_assoc]; exact k4⟩⟩
              rw [List.append_assoc] at e2
              rcases List.mem_append.1 e2 with e | e
              · have := hA _ e; omega
              · rcases List.mem_cons.1 e with e | e
                · omega
                · have := hB _ e; omega
            · have hib := hB i hm
              have := hanc c ((ordOK2_at hok h2).2.2.2 hib)
              have hcn : listed.getD c false = false := (hL c (hlt c (by simp))).2 (by simp)
              rw [hcn] at this; cases this
theorem wp_region_run2 {cx : Cx} {id : Nat} {Q : Exit → Act → World → Prop} {M : List AB} {F : Nat → AV} {a : Act} {w : World} {flags ms : List Nat} {c : Nat} (hm : cx.P.follows .mixedOrders = true)
    (hok : ordOK2 ops flags ms c = true) (hcl : c + 2 ≤ ops.size) (h : RunF cx.P ops cx.N (fun i => flags.getD i 0) (fun M F => RunF cx.P ops cx.N (fun i => flags.getD i 0) K (c :: (c + 1) :: List.range' (c + 2) (ops.size - (c + 2))) M F ∧ RunF cx.P ops cx.N (fun i => flags.getD i 0) K ((c + 1) :: c :: List.range' (c + 2) (ops.size - (c + 2))) M F) (List.range' 0 c) M F) (hs : SatF cx M F a w)
    (hQ : ∀ M F a w, K M F → SatF cx M F a w → Q .normal a w) : (Code.region id ops true).wpIn (Fen cx.L) 0 cx.P Q a w := by
  refine wpIn_region_any hm ?_
  obtain ⟨h1, h2, β, h3, h4, h5⟩ := hs
  have hb : Below w.heap.size w w.drew := (Below.refl _ _).drew
  have he : Ev M β w M β w.drew := Ev.of_below hb
  have hL : List.range ops.size = List.range' 0 c ++ c :: (c + 1) :: List.range' (c + 2) (ops.size - (c + 2)) := by
    rw [List.range_eq_range']
    have : ops.size = c + ((ops.size - (c + 2)) + 1 + 1) := by omega
    conv => lhs; rw [this]
    rw [← List.range'_append_1, Nat.zero_add, List.range'_succ, List.range'_succ]
  refine RunF.anyC rfl rfl hok (fun _ => rfl) hQ ops.size (List.range ops.size) _ M F a _ (by simp) (by simp) List.pairwise_lt_range (fun j hj => ?_) (fun j hj => by simpa using hj) (fun j oj _ hl => ?_) (.inr ⟨_, _, hL, fun j hj => by simp [List.mem_range'_1] at hj; exact hj, fun j hj => by simp [List.mem_range'_1] at hj; omega, h⟩)
    ⟨h1, h2.ev h3 he, β, h3.quiet hb, h4.trans he, fun d => (h5 d).ev he⟩
  · simp [hj]
  · rcases Nat.lt_or_ge j ops.size with hj | hj <;> simp [hj] at hl
/-- Which operations stand at these places. -/
def Ix (ops : Array Oper) (fn : Nat → Nat) : List Nat → List Oper → List Nat → Prop
  | [], [], [] => True
  | i :: I, o :: l, k :: fl => ops[i]? = some o ∧ fn i = k ∧ Ix ops fn I l fl
  | _, _, _ => False
theorem Run.toFI {K : AS → Prop} {fn : Nat → Nat} : ∀ (I : List Nat) (l : List Oper) (fl : List Nat) (s : AS), Ix ops fn I l fl → Run P ops N K l fl s → RunF P ops N fn (fun M F => ∃ G, F = look G ∧ K ⟨M, G⟩) I s.M (look s.F)
  | [], [], [], s, _, h => ⟨s.F, rfl, h.2⟩
  | i :: I, o :: l, k :: fl, s, ⟨h1, h2, h3⟩, ⟨k', fl', M', out, e, hd, hs, h⟩ => by
    cases e
    refine ⟨o, M', out, h1, hd, by rw [h2]; exact hs, ?_⟩
    have := Run.toFI I l fl ⟨M', putF s.F o.dst out⟩ h3 h
    rw [look_putF] at this
    exact this
  | [], _ :: _, _, _, h, _ => h.elim
  | [], [], _ :: _, _, h, _ => h.elim
  | _ :: _, [], _, _, h, _ => h.elim
  | _ :: _, _ :: _, [], _, h, _ => h.elim
theorem ix_of : ∀ (A Z B : List Oper) (ka kz kb : List Nat), ka.length = A.length → kz.length = Z.length → Ix (Z ++ A ++ B).toArray (fun i => (kz ++ ka ++ kb).getD i 0) (List.range' Z.length A.length) A ka
  | [], _, _, [], _, _, _, _ => trivial
  | a :: A, Z, B, k :: ka, kz, kb, h, h' => by
    rw [List.length_cons, List.range'_succ]
    refine ⟨by simp, by simp [← h'], ?_⟩
    have := ix_of A (Z ++ [a]) B ka (kz ++ [k]) kb (by simpa using h) (by simp [h'])
    simpa using this
  | [], _, _, _ :: _, _, _, h, _ => by simp at h
  | _ :: _, _, _, [], _, _, h, _ => by simp at h
theorem a_draw2 {S : Nat → Prop} {w0 : World} {M0 M : List AB} {β0 : Env} {L : Option Nat} {F : List (Nat × AV)} {Q : Exit → AS → Prop} {id : Nat} {l : List Oper} (hm : P.follows .mixedOrders = true) (c : Nat) (fl : List Nat) {x y : Oper} {kx ky : Nat} {post : List Oper} {fpost : List Nat} (hok : ordOK2 l.toArray fl (ancs l []) c = true) (hl : fl.length = l.length)
    (hx : l.drop c = x :: y :: post) (hk : fl.drop c = kx :: ky :: fpost)
    (h : RunX P l.toArray N (fun s => RunX P l.toArray N (fun s' => Q .normal s') (x :: y :: post) (some (kx :: ky :: fpost)) s.M s.F ∧ RunX P l.toArray N (fun s' => Q .normal s') (y :: x :: post) (some (ky :: kx :: fpost)) s.M s.F) (l.take c) (some (fl.take c)) M F) : AWp ⟨P, N, S, w0, M0, β0, L⟩ (.region id l.toArray true) ⟨M, F⟩ Q := by
  intro a w hs
  have el : l = l.take c ++ x :: y :: post := by rw [← hx, List.take_append_drop]
  have ef : fl = fl.take c ++ kx :: ky :: fpost := by rw [← hk, List.take_append_drop]
  have hdl := congrArg List.length hx
  have hdk := congrArg List.length hk
  simp only [List.length_drop, List.length_cons] at hdl hdk
  have hcl : c + 2 ≤ l.length := by omega
  have htl : (l.take c).length = c := by rw [List.length_take]; omega
  have htk : (fl.take c).length = c := by rw [List.length_take]; omega
  have hpl : fpost.length = post.length := by omega
  have hsz : l.toArray.size - (c + 2) = post.length := by simp; omega
  have i1 : Ix l.toArray (fun i => fl.getD i 0) (List.range' 0 c) (l.take c) (fl.take c) := by
    have := ix_of (l.take c) [] (x :: y :: post) (fl.take c) [] (kx :: ky :: fpost) (by rw [htl, htk]) rfl
    rw [List.nil_append, List.nil_append, ← el, ← ef, htl] at this
    exact this
  have i2 : Ix l.toArray (fun i => fl.getD i 0) (List.range' (c + 2) post.length) post fpost := by
    have := ix_of post (l.take c ++ [x, y]) [] fpost (fl.take c ++ [kx, ky]) [] hpl (by simp [htl, htk])
    simp only [List.append_nil, List.append_assoc, List.cons_append, List.nil_append] at this
    rw [← el, ← ef] at this
    simpa [htl, htk, Nat.min_eq_left (show c ≤ l.length by omega)] using this
  have ex : l.toArray[c]? = some x := by
    have h2 : (l.drop c)[0]? = some x := by rw [hx]; rfl
    rw [List.getElem?_drop] at h2
    simpa using h2
  have ey : l.toArray[c + 1]? = some y := by
    have h2 : (l.drop c)[1]? = some y := by rw [hx]; rfl
    rw [List.getElem?_drop] at h2
    simpa using h2
  have fx : fl.getD c 0 = kx := by
    have h2 : (fl.drop c)[0]? = some kx := by rw [hk]; rfl
    rw [List.getElem?_drop, Nat.add_zero] at h2
    rw [List.getD_eq_getElem?_getD, h2]; rfl
  have fy : fl.getD (c + 1) 0 = ky := by
    have h2 : (fl.drop c)[1]? = some ky := by rw [hk]; rfl
    rw [List.getElem?_drop] at h2
    rw [List.getD_eq_getElem?_getD, h2]; rfl
  have hF := Run.toFI (ops := l.toArray) (P := P) (N := N) _ _ _ ⟨M, F⟩ i1 h
  refine wp_region_run2 (cx := ⟨P, N, S, w0, M0, β0, L⟩) (K := fun M F => ∃ G, F = look G ∧ Q .normal ⟨M, G⟩) hm hok (by simpa using hcl) ?_ hs (fun M F a w ⟨G, hG, hq⟩ hs => ⟨⟨M, G⟩, hq, by subst hG; exact hs⟩)
  refine RunF.imp ?_ hF
  rintro M1 F1 ⟨G, rfl, h1, h2⟩
  rw [hsz]
  exact ⟨Run.toFI (ops := l.toArray) (P := P) (N := N) _ (x :: y :: post) (kx :: ky :: fpost) ⟨M1, G⟩ ⟨ex, fx, ey, fy, i2⟩ h1, Run.toFI (ops := l.toArray) (P := P) (N := N) _ (y :: x :: post) (ky :: kx :: fpost) ⟨M1, G⟩ ⟨ey, fy, ex, fx, i2⟩ h2⟩
end
end Go.Proofs.YtiolnmfaeenlmaaGreatDoor
