/- THE ROW 'DefineNames', PROVED, and its card: whatever the input: true; each argument reads behind the call as it read before. -/
import Derived.Test.YtllmagfmbglefaaDoorPr
import Derived.Test.YtllmagfmbglefaaDoorIc0
import Derived.Test.YtllmagfmbglefaaDoorIc1
import Derived.Test.YtllmagfmbglefaaDoorIc2
namespace Go.Proofs.YtllmagfmbglefaaDoor
open Go Go.RowKit Go.WideShapes Go.ChangeShapes Go.ChangeAt

theorem dnames_ok (k how : Int) : uV Tryd.prog 8 [.val (.int .i64 k), .val (.int .i64 how)] (.val (.bool true)) := by
  have h : k % 12 = 0 ∨ k % 12 = 1 ∨ k % 12 = 2 ∨ k % 12 = 3 ∨ k % 12 = 4 ∨ k % 12 = 5 ∨ k % 12 = 6 ∨ k % 12 = 7 ∨ k % 12 = 8 ∨ k % 12 = 9 ∨ k % 12 = 10 ∨ k % 12 = 11 := by omega
  rcases h with h | h | h | h | h | h | h | h | h | h | h | h
  · exact dn0 k how h
  · exact dn1 k how h
  · exact dn2 k how h
  · exact dn3 k how h
  · exact dn4 k how h
  · exact dn5 k how h
  · exact dn6 k how h
  · exact dn7 k how h
  · exact dn8 k how h
  · exact dn9 k how h
  · exact dn10 k how h
  · exact dn11 k how h
set_option maxRecDepth 100000 in
theorem defineNames_lifted (os : Os) (started : os.Started) (H : Type) (enc : TypeId × Value → H) :
    ReturnsInHanded {} Tryd.checked os 8 .any (fun w args => (Rows.defineNamesSpec.pre enc Tryd.prog Tryd.f8 [] false w args ∧ laidMetH Tryd.prog laid2 w) ∧ sizedMet enc Tryd.prog Tryd.f8 (OpenSpec.ofChange Rows.defineNamesSpec) false w args)
      (Rows.defineNamesSpec.post enc Tryd.prog Tryd.f8 false true false false) := by
  refine returnsInHanded_of_change_and (C := Tryd.checked) (X := fun w _ => laidMetH Tryd.prog laid2 w) (fun _ _ _ hh h => h.of_heap hh) Tryd.own started (by kernel_rfl) Tryd.func8
    (ChangeSpec.witness_shaped (enc := enc) (C := Tryd.checked) (os := os) (X := fun w _ => laidMetH Tryd.prog laid2 w) false (World.doorLaid Tryd.prog 400 os) #[.int .i64 0, .int .i64 0] 8 rfl (World.shaped_of_RefB (by kernel_rfl) (by kernel_rfl)) (by kernel_rfl) (by kernel_rfl) (by kernel_rfl) (door_met os _)) ?_
  intro W base args ds gs before hval hW _ _ hL _
  refine law_post (n := 2) (tb := 4) tab_ok Tryd.laidOut rfl (by kernel_rfl) (by kernel_rfl) (fun l hl => ?_) (by kernel_rfl) (by kernel_rfl) (fun xs hx => ?_) hval (gl_of_laid hL) hW
  · match l, hl with
    | [d1, d2], _ => exact ⟨rfl, rfl, rfl⟩
  · obtain ⟨x1, _, rfl, ⟨i1, rfl, _⟩, x2, _, rfl, ⟨i2, rfl, _⟩, rfl⟩ := hx
    exact dnames_ok i1 i2

theorem defineNames_said : Rows.DefineNamesSaid :=
  OpenClaim.holds_of_wide 8 Tryd.f8 rfl rfl rfl rfl rfl rfl rfl ⟨rfl, rfl, rfl, rfl, rfl⟩ rfl rfl rfl rfl rfl (by kernel_rfl) Tryd.func8 (by kernel_rfl)
    (of_decide_eq_true (by kernel_rfl)) (by unfold Func.isWrapper; first | (rw [if_pos (by decide +kernel)]; kernel_rfl) | (rw [if_neg (by decide +kernel)]; exact ⟨rfl, rfl⟩))
    (fun os started H enc _ => defineNames_lifted os started H enc)
theorem defineNames_holds : Rows.DefineNamesCardSaid :=
  Claim7.holds_tied_plain_at .later [] [.listed, .data] true _ false
    defineNames_said (fun _ h => by cases h) (by kernel_rfl) (fun _ h => by cases h) defineNames_row_tie rfl ⟨rfl, rfl⟩ (by kernel_rfl) rfl
    (fun f fn hf hfn => by
      obtain rfl : f = 8 := Option.some.inj ((show Tryd.prog.funcNamed "fleuron/fleuronlaw10.DefineNames" = some 8 by kernel_rfl).symm.trans hf) |>.symm
      obtain rfl : fn = Tryd.f8 := (Option.some.inj (Tryd.func8.symm.trans hfn)).symm
      exact ⟨by kernel_rfl, fun j t ht => by
        have hall : (Tryd.f8.params.all fun u => !Tryd.prog.wantsStandIn u) = true := by kernel_rfl
        have hm : t ∈ Tryd.f8.params := Array.mem_of_getElem? ht
        rw [Array.all_eq_true_iff_forall_mem] at hall
        exact (show Tryd.prog.wantsStandIn t = false by simpa using hall t hm)⟩)
    (by kernel_rfl)
end Go.Proofs.YtllmagfmbglefaaDoor
