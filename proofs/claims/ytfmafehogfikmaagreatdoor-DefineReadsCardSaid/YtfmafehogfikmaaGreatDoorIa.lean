/- law10: equality of bounds; awake. -/
import Derived.Test.YtfmafehogfikmaaGreatDoorI9
import Derived.ChangeKeysEq
namespace Go.Proofs.YtfmafehogfikmaaGreatDoor
open Go Go.RowKit
set_option maxRecDepth 20000

def rgV (p : Int × Int) : Value := .agg #[.int .i64 p.1, .int .i64 p.2]
theorem rgV_of {c : Int × Int} {M : List AB} {β : Env} {w : World} {imm : Nat → Prop} {v : Value} (h : AVsat M β w imm (.agg [.val (.int .i64 c.1), .val (.int .i64 c.2)]) v) : v = rgV c := by
  obtain ⟨⟨cs⟩, rfl, _, _, h1, rfl, _, _, h2, rfl, h5⟩ := h
  rw [h5] at h2; rw [h2] at h1
  simp only at h1
  rw [rgV, h1]
theorem run_eqRg (c : Int × Int) (w : World) : (Op.equalIn 10000 54 (rgV c) (rgV c)).run Tryz.prog w = .ok true w := by
  have hu : Tryz.prog.underlying 54 = some (.array 2 3) := by kernel_rfl
  have hs : (Tryz.prog.info? 3).isSome = true := by kernel_rfl
  obtain ⟨i, hi⟩ := Option.isSome_iff_exists.1 hs
  have hc : Tryz.prog.cellsOf 3 = 1 := by kernel_rfl
  have ui := Tryz.underlying3
  have hpi := Tryz.isAgg3 w
  rw [show (10000 : Nat) = 9999 + 1 from rfl, rgV, run_equalIn_array w 9999 _ _ hu hi, hc]
  simp [Op.eqItems, List.range_succ, part, Sem.run_bind, Sem.run_ite, hpi, run_equalIn_int w 9998 _ _ _ _ _ ui]
theorem r_eqRg {o : Oper} {M : List AB} {ops : Array Oper} {N : Nat} {K : AS → Prop} {r : List Oper} {fo fo' : Option (List Nat)} {F : List (Nat × AV)} {dt : Tmp} {u : TypeId} {x y : Operand} (c : Int × Int) (hg : o.guard = none) (ho : o.op = .binOp .eql 54 x y u) (hx : u0 (uH F) x = .agg [.val (.int .i64 c.1), .val (.int .i64 c.2)]) (hy : u0 (uH F) y = .agg [.val (.int .i64 c.1), .val (.int .i64 c.2)]) (hdd : o.dst = some dt) (hd : vn o.dst N = true) (hp : vF fo 1 = some fo')
    (k : RunX Tryz.prog ops N K r fo' M ((dt, .val (.bool true)) :: F)) : RunX Tryz.prog ops N K (o :: r) fo M F := by
  have hA : AStep Tryz.prog o M (u0 (uH F)) M (.val (.bool true)) := .value fun S B β a w _ hs => by
    have h1 := hs x (by simp [ho, Op.operands])
    have h2 := hs y (by simp [ho, Op.operands])
    rw [hx] at h1; rw [hy] at h2
    have h1 := rgV_of h1
    have h2 := rgV_of h2
    refine ⟨_, ?_, rfl⟩
    have hg : (eqGuard .eql 54 x y (rgV c) (rgV c)).run Tryz.prog w = .ok () w := run_eqGuard_agg w _ _ _ _ _ _ (by kernel_rfl)
    have he : (binOp .eql 54 (rgV c) (rgV c)).run Tryz.prog w = .ok (.bool true) w := by
      have := run_eql_struct (P := Tryz.prog) w 54 #[.int .i64 c.1, .int .i64 c.2] #[.int .i64 c.1, .int .i64 c.2]
      rw [← rgV, run_eqRg] at this
      exact this
    simp only [execOp, ho, h1, h2, Sem.run_bind, hg, he, Result.andThen_ok]
    rfl
  exact RunX.mk (fun _ k => Run.quiet hd (StepG.plain hg hA) (by rw [uT hdd]; exact k)) hp k
def okN (s : ByteArray) : Bool := decide (s.size ≤ 549755813888) && decide (u4 (zW s) < 1099511627776) && (zW s).all okT
theorem name_at {s : ByteArray} {n : ByteArray} {o : Bool} (h : okN s = true ∧ nmF (zW s) = (n, o)) : uI Tryz.prog 11 [.sl 7 ((zW s).map nF)] (.tup [.val (.string n), .val (.bool o)]) := by
  obtain ⟨h1, h2⟩ := h
  simp only [okN, Bool.and_eq_true, decide_eq_true_eq, List.all_eq_true, okT] at h1
  have := kh (zW s) h1.1.2 h1.2
  rwa [h2] at this
def vb6S : ByteArray := ⟨#[32, 76, 79, 87, 69, 82, 45, 114, 111, 109, 97, 110, 32]⟩
theorem vb6 : okN vb6S = true ∧ nmF (zW vb6S) = (⟨#[108, 111, 119, 101, 114, 45, 114, 111, 109, 97, 110]⟩, true) := ⟨by kernel_rfl, by kernel_rfl⟩
def vb5N : Nd := .mk ⟨5, ⟨#[113]⟩, 0, false, false, false⟩ []
set_option maxHeartbeats 8000000 in
theorem awake10_ok : uI Tryz.prog 4 [] (.val (.bool true)) := by
  refine uP Tryz.func4 Tryz.ntmps4 rfl rfl rfl fun S w => ?_
  repeat (first | refine ue ?_ | refine ud ?_ | refine uf ?_ | (refine ug ?_; first | refine uh tab_ok rfl rfl rfl rfl byE rfl ?_))
  refine uw (one10_at vb1) call15 rfl rfl ⟨Sub.refl _, trivial⟩ rfl rfl rfl rfl ?_
  repeat (first | refine ue ?_ | refine ud ?_ | refine uf ?_ | (refine ug ?_; first | refine uh tab_ok rfl rfl rfl rfl byE rfl ?_ | refine vp tab_ok rfl rfl rfl rfl rfl ?_ | refine uM tab_ok rfl rfl rfl rfl ?_))
  refine uw (one10_at vb2) call15 rfl rfl ⟨Sub.refl _, trivial⟩ rfl rfl rfl rfl ?_
  repeat (first | refine ue ?_ | refine ud ?_ | refine uf ?_ | (refine ug ?_; first | refine uh tab_ok rfl rfl rfl rfl byE rfl ?_ | refine vp tab_ok rfl rfl rfl rfl rfl ?_ | refine uM tab_ok rfl rfl rfl rfl ?_))
  refine uw (one10_at vb3) call15 rfl rfl ⟨Sub.refl _, trivial⟩ rfl rfl rfl rfl ?_
  repeat (first | refine ue ?_ | refine ud ?_ | refine uf ?_ | (refine ug ?_; first | refine uh tab_ok rfl rfl rfl rfl byE rfl ?_ | refine vp tab_ok rfl rfl rfl rfl rfl ?_ | refine uM tab_ok rfl rfl rfl rfl ?_))
  refine uw (one10_at vb4) call15 rfl rfl ⟨Sub.refl _, trivial⟩ rfl rfl rfl rfl ?_
  repeat (first | refine ue ?_ | refine ud ?_ | refine uf ?_ | (refine ug ?_; first | refine uh tab_ok rfl rfl rfl rfl byE rfl ?_ | refine vp tab_ok rfl rfl rfl rfl rfl ?_ | refine uM tab_ok rfl rfl rfl rfl ?_ | refine uU tab_ok rfl rfl rfl rfl rfl rfl ?_))
  refine uw (wC vb5N) ze rfl rfl ⟨Sub.agg (by repeat' first | exact trivial | exact Sub.refl _ | exact Sub.nil _ | refine Sub.agg ?_ | apply And.intro), trivial⟩ rfl rfl rfl rfl ?_
  repeat (first | refine ue ?_ | refine ud ?_ | refine uf ?_ | (refine ug ?_; first | refine uh tab_ok rfl rfl rfl rfl byE rfl ?_))
  refine uw (nodes10_ok vb6S (by decide)) call10 rfl rfl ⟨Sub.refl _, trivial⟩ rfl rfl rfl rfl ?_
  refine uw (name_at vb6) call11 rfl rfl ⟨Sub.refl _, trivial⟩ rfl rfl rfl rfl ?_
  repeat (first | refine ue ?_ | refine ud ?_ | refine uf ?_ | (refine ug ?_; first | refine uh tab_ok rfl rfl rfl rfl byE rfl ?_ | refine uN rfl rfl rfl rfl rfl rfl rfl ?_ | refine uY tab_ok rfl rfl rfl rfl rfl rfl (by first | exact trivial | omega) rfl ?_ | refine wm tab_ok rfl rfl rfl rfl rfl rfl rfl ?_ | refine u9 tab_ok rfl rfl rfl rfl rfl rfl rfl rfl rfl ?_) | refine r_g rfl rfl rfl ?_)
  refine uw (texts_self [⟨#[97]⟩, ⟨#[98]⟩] (by decide)) call16 rfl rfl ⟨Sub.refl _, Sub.refl _, trivial⟩ rfl rfl rfl rfl ?_
  repeat (first | (refine ug ?_; first | refine uh tab_ok rfl rfl rfl rfl byE rfl ?_ | refine vl tab_ok rfl rfl rfl rfl rfl rfl rfl (by decide) rfl rfl rfl ?_ | refine uN rfl rfl rfl rfl rfl rfl rfl ?_ | refine v6 tab_ok rfl rfl rfl rfl rfl rfl rfl rfl rfl ?_ | refine uY tab_ok rfl rfl rfl rfl rfl rfl (by first | exact trivial | omega) rfl ?_ | refine wm tab_ok rfl rfl rfl rfl rfl rfl rfl ?_ | refine uU tab_ok rfl rfl rfl rfl rfl rfl ?_) | refine r_g rfl rfl rfl ?_)
  refine r_eqRg (-2147483648, -5) rfl rfl rfl rfl rfl rfl rfl ?_
  repeat (first | refine uc ?_ | refine uk ?_ | refine uf ?_ | (refine ug ?_; first | refine uh tab_ok rfl rfl rfl rfl byE rfl ?_ | refine uN rfl rfl rfl rfl rfl rfl rfl ?_ | refine uY tab_ok rfl rfl rfl rfl rfl rfl (by first | exact trivial | omega) rfl ?_ | refine wm tab_ok rfl rfl rfl rfl rfl rfl rfl ?_ | refine yD tab_ok rfl rfl rfl rfl (by decide) rfl rfl rfl rfl ?_) | refine vB byO rfl rfl rfl ?_ | refine r_g rfl rfl rfl ?_)
  exact Sub.refl _
end Go.Proofs.YtfmafehogfikmaaGreatDoor
