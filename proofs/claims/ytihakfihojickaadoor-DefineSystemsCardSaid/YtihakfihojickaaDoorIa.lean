/- law10: equality of bounds; awake. -/
import Derived.Test.YtihakfihojickaaDoorI9
import Derived.ChangeKeysEq
namespace Go.Proofs.YtihakfihojickaaDoor
open Go Go.RowKit
set_option maxRecDepth 20000

def rgV (p : Int × Int) : Value := .agg #[.int .i64 p.1, .int .i64 p.2]
theorem rgV_of {c : Int × Int} {M : List AB} {β : Env} {w : World} {imm : Nat → Prop} {v : Value} (h : AVsat M β w imm (.agg [.val (.int .i64 c.1), .val (.int .i64 c.2)]) v) : v = rgV c := by
  obtain ⟨⟨cs⟩, rfl, _, _, h1, rfl, _, _, h2, rfl, h5⟩ := h
  rw [h5] at h2; rw [h2] at h1
  simp only at h1
  rw [rgV, h1]
theorem run_eqRg (c : Int × Int) (w : World) : (Op.equalIn 10000 33 (rgV c) (rgV c)).run Tryd.prog w = .ok true w := by
  have hu : Tryd.prog.underlying 33 = some (.array 2 3) := by kernel_rfl
  have hs : (Tryd.prog.info? 3).isSome = true := by kernel_rfl
  obtain ⟨i, hi⟩ := Option.isSome_iff_exists.1 hs
  have hc : Tryd.prog.cellsOf 3 = 1 := by kernel_rfl
  have ui := Tryd.underlying3
  have hpi := Tryd.isAgg3 w
  rw [show (10000 : Nat) = 9999 + 1 from rfl, rgV, run_equalIn_array w 9999 _ _ hu hi, hc]
  simp [Op.eqItems, List.range_succ, part, Sem.run_bind, Sem.run_ite, hpi, run_equalIn_int w 9998 _ _ _ _ _ ui]
theorem r_eqRg {o : Oper} {M : List AB} {ops : Array Oper} {N : Nat} {K : AS → Prop} {r : List Oper} {fo fo' : Option (List Nat)} {F : List (Nat × AV)} {dt : Tmp} {u : TypeId} {x y : Operand} (c : Int × Int) (hg : o.guard = none) (ho : o.op = .binOp .eql 33 x y u) (hx : aval (look F) x = .agg [.val (.int .i64 c.1), .val (.int .i64 c.2)]) (hy : aval (look F) y = .agg [.val (.int .i64 c.1), .val (.int .i64 c.2)]) (hdd : o.dst = some dt) (hd : dstB o.dst N = true) (hp : popF fo 1 = some fo')
    (k : RunX Tryd.prog ops N K r fo' M ((dt, .val (.bool true)) :: F)) : RunX Tryd.prog ops N K (o :: r) fo M F := by
  have hA : AStep Tryd.prog o M (aval (look F)) M (.val (.bool true)) := .value fun S B β a w _ hs => by
    have h1 := hs x (by simp [ho, Op.operands])
    have h2 := hs y (by simp [ho, Op.operands])
    rw [hx] at h1; rw [hy] at h2
    have h1 := rgV_of h1
    have h2 := rgV_of h2
    refine ⟨_, ?_, rfl⟩
    have hg : (eqGuard .eql 33 x y (rgV c) (rgV c)).run Tryd.prog w = .ok () w := run_eqGuard_agg w _ _ _ _ _ _ (by kernel_rfl)
    have he : (binOp .eql 33 (rgV c) (rgV c)).run Tryd.prog w = .ok (.bool true) w := by
      have := run_eql_struct (P := Tryd.prog) w 33 #[.int .i64 c.1, .int .i64 c.2] #[.int .i64 c.1, .int .i64 c.2]
      rw [← rgV, run_eqRg] at this
      exact this
    simp only [execOp, ho, h1, h2, Sem.run_bind, hg, he, Result.andThen_ok]
    rfl
  exact RunX.mk (fun _ k => Run.quiet hd (StepG.plain hg hA) (by rw [put_eq hdd]; exact k)) hp k
def okN (s : ByteArray) : Bool := decide (s.size ≤ 549755813888) && decide (nszs (ndsF s) < 1099511627776) && (ndsF s).all okT
theorem name_at {s : ByteArray} {n : ByteArray} {o : Bool} (h : okN s = true ∧ nmF (ndsF s) = (n, o)) : PCalls Tryd.prog 12 [.sl 7 ((ndsF s).map nF)] (.tup [.val (.string n), .val (.bool o)]) := by
  obtain ⟨h1, h2⟩ := h
  simp only [okN, Bool.and_eq_true, decide_eq_true_eq, List.all_eq_true, okT] at h1
  have := dname_ok (ndsF s) h1.1.2 h1.2
  rwa [h2] at this
def vb6S : ByteArray := ⟨#[32, 76, 79, 87, 69, 82, 45, 114, 111, 109, 97, 110, 32]⟩
theorem vb6 : okN vb6S = true ∧ nmF (ndsF vb6S) = (⟨#[108, 111, 119, 101, 114, 45, 114, 111, 109, 97, 110]⟩, true) := ⟨by kernel_rfl, by kernel_rfl⟩
def vb5N : Nd := .mk ⟨5, ⟨#[113]⟩, 0, false, false, false⟩ []
set_option maxHeartbeats 8000000 in
theorem awake10_ok : PCalls Tryd.prog 6 [] (.val (.bool true)) := by
  refine p_start Tryd.func6 Tryd.ntmps6 rfl rfl rfl fun S w => ?_
  repeat (first | refine awp_seq ?_ | refine a_region ?_ | refine r_done ?_ | (refine r_id ?_; first | refine r_ev tab_ok rfl rfl rfl rfl byE rfl ?_))
  refine r_call (one10_at vb1) call8 rfl rfl ⟨Sub.refl _, trivial⟩ rfl rfl rfl rfl ?_
  repeat (first | refine awp_seq ?_ | refine a_region ?_ | refine r_done ?_ | (refine r_id ?_; first | refine r_ev tab_ok rfl rfl rfl rfl byE rfl ?_ | refine r_wr tab_ok rfl rfl rfl rfl rfl ?_ | refine r_st tab_ok rfl rfl rfl rfl ?_))
  refine r_call (one10_at vb2) call8 rfl rfl ⟨Sub.refl _, trivial⟩ rfl rfl rfl rfl ?_
  repeat (first | refine awp_seq ?_ | refine a_region ?_ | refine r_done ?_ | (refine r_id ?_; first | refine r_ev tab_ok rfl rfl rfl rfl byE rfl ?_ | refine r_wr tab_ok rfl rfl rfl rfl rfl ?_ | refine r_st tab_ok rfl rfl rfl rfl ?_))
  refine r_call (one10_at vb3) call8 rfl rfl ⟨Sub.refl _, trivial⟩ rfl rfl rfl rfl ?_
  repeat (first | refine awp_seq ?_ | refine a_region ?_ | refine r_done ?_ | (refine r_id ?_; first | refine r_ev tab_ok rfl rfl rfl rfl byE rfl ?_ | refine r_wr tab_ok rfl rfl rfl rfl rfl ?_ | refine r_st tab_ok rfl rfl rfl rfl ?_))
  refine r_call (one10_at vb4) call8 rfl rfl ⟨Sub.refl _, trivial⟩ rfl rfl rfl rfl ?_
  repeat (first | refine awp_seq ?_ | refine a_region ?_ | refine r_done ?_ | (refine r_id ?_; first | refine r_ev tab_ok rfl rfl rfl rfl byE rfl ?_ | refine r_wr tab_ok rfl rfl rfl rfl rfl ?_ | refine r_st tab_ok rfl rfl rfl rfl ?_ | refine r_build tab_ok rfl rfl rfl rfl rfl rfl ?_))
  refine r_call (symbol_ok vb5N) call11 rfl rfl ⟨Sub.agg (by repeat' first | exact trivial | exact Sub.refl _ | exact Sub.nil _ | refine Sub.agg ?_ | apply And.intro), trivial⟩ rfl rfl rfl rfl ?_
  repeat (first | refine awp_seq ?_ | refine a_region ?_ | refine r_done ?_ | (refine r_id ?_; first | refine r_ev tab_ok rfl rfl rfl rfl byE rfl ?_))
  refine r_call (nodes10_ok vb6S (by decide)) call13 rfl rfl ⟨Sub.refl _, trivial⟩ rfl rfl rfl rfl ?_
  refine r_call (name_at vb6) call12 rfl rfl ⟨Sub.refl _, trivial⟩ rfl rfl rfl rfl ?_
  repeat (first | refine awp_seq ?_ | refine a_region ?_ | refine r_done ?_ | (refine r_id ?_; first | refine r_ev tab_ok rfl rfl rfl rfl byE rfl ?_ | refine r_pick_t rfl rfl rfl rfl rfl rfl rfl ?_ | refine r_ev_on tab_ok rfl rfl rfl rfl rfl rfl (by first | exact trivial | exact ⟨by omega, by omega⟩ | omega) rfl ?_ | refine r_ld_on tab_ok rfl rfl rfl rfl rfl rfl rfl ?_ | refine r_built tab_ok rfl rfl rfl rfl rfl rfl rfl rfl rfl ?_) | refine r_g rfl rfl rfl ?_)
  refine r_call (texts_self [⟨#[97]⟩, ⟨#[98]⟩] (by decide)) call14 rfl rfl ⟨Sub.refl _, Sub.refl _, trivial⟩ rfl rfl rfl rfl ?_
  repeat (first | (refine r_id ?_; first | refine r_ev tab_ok rfl rfl rfl rfl byE rfl ?_ | refine r_idxd tab_ok rfl rfl rfl rfl rfl rfl rfl (by decide) rfl rfl rfl ?_ | refine r_pick_t rfl rfl rfl rfl rfl rfl rfl ?_ | refine r_len_on tab_ok rfl rfl rfl rfl rfl rfl rfl rfl rfl ?_ | refine r_ev_on tab_ok rfl rfl rfl rfl rfl rfl (by first | exact trivial | exact ⟨by omega, by omega⟩ | omega) rfl ?_ | refine r_ld_on tab_ok rfl rfl rfl rfl rfl rfl rfl ?_ | refine r_build tab_ok rfl rfl rfl rfl rfl rfl ?_) | refine r_g rfl rfl rfl ?_)
  refine r_eqRg (-2147483648, -5) rfl rfl rfl rfl rfl rfl rfl ?_
  repeat (first | refine thenA_normal ?_ | refine awp_ret ?_ | refine r_done ?_ | (refine r_id ?_; first | refine r_ev tab_ok rfl rfl rfl rfl byE rfl ?_ | refine r_pick_t rfl rfl rfl rfl rfl rfl rfl ?_ | refine r_ev_on tab_ok rfl rfl rfl rfl rfl rfl (by first | exact trivial | exact ⟨by omega, by omega⟩ | omega) rfl ?_ | refine r_ld_on tab_ok rfl rfl rfl rfl rfl rfl rfl ?_ | refine r_idxa tab_ok rfl rfl rfl rfl (by decide) rfl rfl rfl rfl ?_) | refine ret1 byO rfl rfl rfl ?_ | refine r_g rfl rfl rfl ?_)
  exact Sub.refl _
end Go.Proofs.YtihakfihojickaaDoor
