/- THE ROW 'RulesEach', PROVED, and its card: whatever the input: true; each argument reads behind the call as it read before. -/
import Derived.Test.YtiolnmfaeenlmaaGreatDoorc0
import Derived.Test.YtiolnmfaeenlmaaGreatDoorR3
import Derived.Test.YtiolnmfaeenlmaaGreatDoorRo
namespace Go.Proofs.YtiolnmfaeenlmaaGreatDoor
open Go Go.RowKit Go.WideShapes Go.ChangeShapes Go.ChangeAt

set_option maxRecDepth 100000 in
theorem rulesEach_lifted (os : Os) (started : os.Started) (H : Type) (enc : TypeId × Value → H) :
    ReturnsInHanded {} Tryz.checked os 4 .any (fun w args => (Rows.rulesEachSpec.pre enc Tryz.prog Tryz.f4 [] false w args ∧ laidMetH Tryz.prog laid2 w) ∧ sizedMet enc Tryz.prog Tryz.f4 (OpenSpec.ofChange Rows.rulesEachSpec) false w args)
      (Rows.rulesEachSpec.post enc Tryz.prog Tryz.f4 false true false false) := by
  refine returnsInHanded_of_change_and (C := Tryz.checked) (X := fun w _ => laidMetH Tryz.prog laid2 w) (fun _ _ _ hh h => h.of_heap hh) Tryz.own started (by kernel_rfl) Tryz.func4
    (ChangeSpec.witness_shaped (enc := enc) (C := Tryz.checked) (os := os) (X := fun w _ => laidMetH Tryz.prog laid2 w) false (World.laidAll Tryz.prog os laid2) #[.slice none 0 0, .slice none 0 0] 8 (World.laidAll_os _ _ _) (lay_shape os) (by kernel_rfl) (by kernel_rfl) (by kernel_rfl) (lay_met os _)) ?_
  intro W base args ds gs before hval hW _ _ _ _
  refine law_post (n := 5) (tb := 4) tab_ok Tryz.laidOut rfl (by kernel_rfl) (by kernel_rfl) (fun l hl => ?_) (by kernel_rfl) (by kernel_rfl) (fun xs hx => ?_) hval (gl_nil W) hW
  · match l, hl with
    | [d1, d2], _ => exact ⟨rfl, rfl, rfl⟩
  · obtain ⟨x1, _, rfl, h1, x2, _, rfl, h2, rfl⟩ := hx
    obtain ⟨a1, rfl, m1, l1⟩ := open_ints h1
    obtain ⟨a2, rfl, m2, l2⟩ := open_ints h2
    exact lawEach a1 a2 l1 l2

theorem rulesEach_said : Rows.RulesEachSaid :=
  OpenClaim.holds_of_wide 4 Tryz.f4 rfl rfl rfl rfl rfl rfl rfl ⟨rfl, rfl, rfl, rfl, rfl⟩ rfl rfl rfl rfl rfl (by kernel_rfl) Tryz.func4 (by kernel_rfl)
    (of_decide_eq_true (by kernel_rfl)) (by unfold Func.isWrapper; first | (rw [if_pos (by decide +kernel)]; kernel_rfl) | (rw [if_neg (by decide +kernel)]; exact ⟨rfl, rfl⟩))
    (fun os started H enc _ => rulesEach_lifted os started H enc)
theorem rulesEach_holds : Rows.RulesEachCardSaid :=
  Claim7.holds_tied_plain_at .later [] [.data, .pinned] true _ false
    rulesEach_said (fun _ h => by cases h) (by kernel_rfl) (fun _ h => by cases h) rulesEach_row_tie rfl ⟨rfl, rfl⟩ (by kernel_rfl) rfl
    (fun f fn hf hfn => by
      obtain rfl : f = 4 := Option.some.inj ((show Tryz.prog.funcNamed "fleuron/fleuronlaw4.RulesEach" = some 4 by kernel_rfl).symm.trans hf) |>.symm
      obtain rfl : fn = Tryz.f4 := (Option.some.inj (Tryz.func4.symm.trans hfn)).symm
      exact ⟨by kernel_rfl, fun j t ht => by
        have hall : (Tryz.f4.params.all fun u => !Tryz.prog.wantsStandIn u) = true := by kernel_rfl
        have hm : t ∈ Tryz.f4.params := Array.mem_of_getElem? ht
        rw [Array.all_eq_true_iff_forall_mem] at hall
        exact (show Tryz.prog.wantsStandIn t = false by simpa using hall t hm)⟩)
    (by kernel_rfl)
end Go.Proofs.YtiolnmfaeenlmaaGreatDoor
