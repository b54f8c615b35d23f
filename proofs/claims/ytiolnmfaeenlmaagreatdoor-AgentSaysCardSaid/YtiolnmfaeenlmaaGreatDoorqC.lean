/- THE ROW 'AgentSays', PROVED, and its card: whatever the input: true; each argument reads behind the call as it read before. -/
import Derived.Test.YtiolnmfaeenlmaaGreatDoorc0
import Derived.Test.YtiolnmfaeenlmaaGreatDoorqL
namespace Go.Proofs.YtiolnmfaeenlmaaGreatDoor
open Go Go.RowKit Go.WideShapes Go.ChangeShapes Go.ChangeAt

set_option maxRecDepth 100000 in
theorem agentSays_lifted (os : Os) (started : os.Started) (H : Type) (enc : TypeId × Value → H) :
    ReturnsInHanded {} Tryz.checked os 9 .any (fun w args => (Rows.agentSaysSpec.pre enc Tryz.prog Tryz.f9 [] false w args ∧ laidMetH Tryz.prog laid2 w) ∧ sizedMet enc Tryz.prog Tryz.f9 (OpenSpec.ofChange Rows.agentSaysSpec) false w args)
      (Rows.agentSaysSpec.post enc Tryz.prog Tryz.f9 false true false false) := by
  refine returnsInHanded_of_change_and (C := Tryz.checked) (X := fun w _ => laidMetH Tryz.prog laid2 w) (fun _ _ _ hh h => h.of_heap hh) Tryz.own started (by kernel_rfl) Tryz.func9
    (ChangeSpec.witness_shaped (enc := enc) (C := Tryz.checked) (os := os) (X := fun w _ => laidMetH Tryz.prog laid2 w) false (World.laidAll Tryz.prog os laid2) #[.int .i64 0] 8 (World.laidAll_os _ _ _) (lay_shape os) (by kernel_rfl) (by kernel_rfl) (by kernel_rfl) (lay_met os _)) ?_
  intro W base args ds gs before hval hW _ _ _ _
  refine law_post (n := 5) (tb := 4) tab_ok Tryz.laidOut rfl (by kernel_rfl) (by kernel_rfl) (fun l hl => ?_) (by kernel_rfl) (by kernel_rfl) (fun xs hx => ?_) hval (gl_nil W) hW
  · match l, hl with
    | [d1], _ => exact ⟨rfl, rfl, rfl⟩
  · obtain ⟨x1, _, rfl, h1, rfl⟩ := hx
    obtain ⟨a1, rfl, l1, g1⟩ := open_i64 h1
    exact lawSays a1

theorem agentSays_said : Rows.AgentSaysSaid :=
  OpenClaim.holds_of_wide 9 Tryz.f9 rfl rfl rfl rfl rfl rfl rfl ⟨rfl, rfl, rfl, rfl, rfl⟩ rfl rfl rfl rfl rfl (by kernel_rfl) Tryz.func9 (by kernel_rfl)
    (of_decide_eq_true (by kernel_rfl)) (by unfold Func.isWrapper; first | (rw [if_pos (by decide +kernel)]; kernel_rfl) | (rw [if_neg (by decide +kernel)]; exact ⟨rfl, rfl⟩))
    (fun os started H enc _ => agentSays_lifted os started H enc)
theorem agentSays_holds : Rows.AgentSaysCardSaid :=
  Claim7.holds_tied_plain_at .later [] [.data, .pinned] true _ false
    agentSays_said (fun _ h => by cases h) (by kernel_rfl) (fun _ h => by cases h) agentSays_row_tie rfl ⟨rfl, rfl⟩ (by kernel_rfl) rfl
    (fun f fn hf hfn => by
      obtain rfl : f = 9 := Option.some.inj ((show Tryz.prog.funcNamed "fleuron/fleuronlaw21.AgentSays" = some 9 by kernel_rfl).symm.trans hf) |>.symm
      obtain rfl : fn = Tryz.f9 := (Option.some.inj (Tryz.func9.symm.trans hfn)).symm
      exact ⟨by kernel_rfl, fun j t ht => by
        have hall : (Tryz.f9.params.all fun u => !Tryz.prog.wantsStandIn u) = true := by kernel_rfl
        have hm : t ∈ Tryz.f9.params := Array.mem_of_getElem? ht
        rw [Array.all_eq_true_iff_forall_mem] at hall
        exact (show Tryz.prog.wantsStandIn t = false by simpa using hall t hm)⟩)
    (by kernel_rfl)
end Go.Proofs.YtiolnmfaeenlmaaGreatDoor
