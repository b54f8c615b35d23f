/- THE ROW 'PropWides', PROVED, and its card: whatever the input: true; each argument reads behind the call as it read before. -/
import Derived.Test.YtllmagfmbglefaaDoorPr
import Derived.Test.YtllmagfmbglefaaDoorPj
namespace Go.Proofs.YtllmagfmbglefaaDoor
open Go Go.RowKit Go.WideShapes Go.ChangeShapes Go.ChangeAt

set_option maxRecDepth 100000 in
theorem propWides_lifted (os : Os) (started : os.Started) (H : Type) (enc : TypeId × Value → H) :
    ReturnsInHanded {} Tryd.checked os 3 .any (fun w args => (Rows.propWidesSpec.pre enc Tryd.prog Tryd.f3 [] false w args ∧ laidMetH Tryd.prog laid2 w) ∧ sizedMet enc Tryd.prog Tryd.f3 (OpenSpec.ofChange Rows.propWidesSpec) false w args)
      (Rows.propWidesSpec.post enc Tryd.prog Tryd.f3 false true false false) := by
  refine returnsInHanded_of_change_and (C := Tryd.checked) (X := fun w _ => laidMetH Tryd.prog laid2 w) (fun _ _ _ hh h => h.of_heap hh) Tryd.own started (by kernel_rfl) Tryd.func3
    (ChangeSpec.witness_shaped (enc := enc) (C := Tryd.checked) (os := os) (X := fun w _ => laidMetH Tryd.prog laid2 w) false (World.doorLaid Tryd.prog 400 os) #[.int .i64 0, .int .i64 0, .bool false] 8 rfl (World.shaped_of_RefB (by kernel_rfl) (by kernel_rfl)) (by kernel_rfl) (by kernel_rfl) (by kernel_rfl) (door_met os _)) ?_
  intro W base args ds gs before hval hW _ _ hL _
  refine law_post (n := 2) (tb := 4) tab_ok Tryd.laidOut rfl (by kernel_rfl) (by kernel_rfl) (fun l hl => ?_) (by kernel_rfl) (by kernel_rfl) (fun xs hx => ?_) hval (gl_of_laid hL) hW
  · match l, hl with
    | [d1, d2, d3], _ => exact ⟨rfl, rfl, rfl⟩
  · obtain ⟨x1, _, rfl, ⟨i1, rfl, _⟩, x2, _, rfl, ⟨i2, rfl, _⟩, x3, _, rfl, ⟨b3, rfl⟩, rfl⟩ := hx
    exact pwides_ok i1 i2 b3

theorem propWides_said : Rows.PropWidesSaid :=
  OpenClaim.holds_of_wide 3 Tryd.f3 rfl rfl rfl rfl rfl rfl rfl ⟨rfl, rfl, rfl, rfl, rfl⟩ rfl rfl rfl rfl rfl (by kernel_rfl) Tryd.func3 (by kernel_rfl)
    (of_decide_eq_true (by kernel_rfl)) (by unfold Func.isWrapper; first | (rw [if_pos (by decide +kernel)]; kernel_rfl) | (rw [if_neg (by decide +kernel)]; exact ⟨rfl, rfl⟩))
    (fun os started H enc _ => propWides_lifted os started H enc)
theorem propWides_holds : Rows.PropWidesCardSaid :=
  Claim7.holds_tied_plain_at .later [] [.listed, .data] true _ false
    propWides_said (fun _ h => by cases h) (by kernel_rfl) (fun _ h => by cases h) propWides_row_tie rfl ⟨rfl, rfl⟩ (by kernel_rfl) rfl
    (fun f fn hf hfn => by
      obtain rfl : f = 3 := Option.some.inj ((show Tryd.prog.funcNamed "fleuron/fleuronlaw12.PropWides" = some 3 by kernel_rfl).symm.trans hf) |>.symm
      obtain rfl : fn = Tryd.f3 := (Option.some.inj (Tryd.func3.symm.trans hfn)).symm
      exact ⟨by kernel_rfl, fun j t ht => by
        have hall : (Tryd.f3.params.all fun u => !Tryd.prog.wantsStandIn u) = true := by kernel_rfl
        have hm : t ∈ Tryd.f3.params := Array.mem_of_getElem? ht
        rw [Array.all_eq_true_iff_forall_mem] at hall
        exact (show Tryd.prog.wantsStandIn t = false by simpa using hall t hm)⟩)
    (by kernel_rfl)
end Go.Proofs.YtllmagfmbglefaaDoor
