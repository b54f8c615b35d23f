/- THE ROW 'RulesRead', PROVED, and its card: whatever the input: true; each argument reads behind the call as it read before. -/
import Derived.Test.YtiolnmfaeenlmaaGreatDoorc0
import Derived.Test.YtiolnmfaeenlmaaGreatDoorw3
import Derived.Test.YtiolnmfaeenlmaaGreatDoorR0
namespace Go.Proofs.YtiolnmfaeenlmaaGreatDoor
open Go Go.RowKit Go.WideShapes Go.ChangeShapes Go.ChangeAt

theorem open_u8 {n : Nat} {x : D} (h : DT tab (n + 1) 5 x) : ∃ b : UInt8, x = bD b := by
  obtain ⟨i, rfl, hw⟩ := h
  have e1 : IntKind.u8.max = 255 := rfl
  have e2 : IntKind.u8.min = 0 := rfl
  simp [Lit.wf, e1, e2] at hw
  refine ⟨UInt8.ofNat i.toNat, ?_⟩
  unfold bD
  congr 2
  simp
  omega
theorem open_bytes {n : Nat} {x : D} (h : DT tab (n + 2) 22 x) : ∃ l : List UInt8, x = .sl 1 (l.map bD) ∧ l.length ≤ 9223372036854775807 := by
  obtain ⟨es, rfl, hl, h2⟩ := h
  obtain ⟨l, rfl, _⟩ := list_ofP (Q := fun _ => True) (fun x h => by obtain ⟨b, rfl⟩ := open_u8 h; exact ⟨b, rfl, trivial⟩) es h2
  simp only [List.length_map, maxLen] at hl
  exact ⟨l, rfl, by omega⟩
set_option maxRecDepth 100000 in
theorem rulesRead_lifted (os : Os) (started : os.Started) (H : Type) (enc : TypeId × Value → H) :
    ReturnsInHanded {} Tryz.checked os 3 .any (fun w args => (Rows.rulesReadSpec.pre enc Tryz.prog Tryz.f3 [] false w args ∧ laidMetH Tryz.prog laid2 w) ∧ sizedMet enc Tryz.prog Tryz.f3 (OpenSpec.ofChange Rows.rulesReadSpec) false w args)
      (Rows.rulesReadSpec.post enc Tryz.prog Tryz.f3 false true false false) := by
  refine returnsInHanded_of_change_and (C := Tryz.checked) (X := fun w _ => laidMetH Tryz.prog laid2 w) (fun _ _ _ hh h => h.of_heap hh) Tryz.own started (by kernel_rfl) Tryz.func3
    (ChangeSpec.witness_shaped (enc := enc) (C := Tryz.checked) (os := os) (X := fun w _ => laidMetH Tryz.prog laid2 w) false (World.laidAll Tryz.prog os laid2) #[.slice none 0 0, .string ⟨#[]⟩] 8 (World.laidAll_os _ _ _) (lay_shape os) (by kernel_rfl) (by kernel_rfl) (by kernel_rfl) (lay_met os _)) ?_
  intro W base args ds gs before hval hW _ _ _ _
  refine law_post (n := 5) (tb := 4) tab_ok Tryz.laidOut rfl (by kernel_rfl) (by kernel_rfl) (fun l hl => ?_) (by kernel_rfl) (by kernel_rfl) (fun xs hx => ?_) hval (gl_nil W) hW
  · match l, hl with
    | [d1, d2], _ => exact ⟨rfl, rfl, rfl⟩
  · obtain ⟨x1, _, rfl, h1, x2, _, rfl, h2, rfl⟩ := hx
    obtain ⟨a1, rfl, l1⟩ := open_bytes h1
    obtain ⟨a2, rfl, l2⟩ := open_str h2
    exact lawRead a1 l1 a2 l2

theorem rulesRead_said : Rows.RulesReadSaid :=
  OpenClaim.holds_of_wide 3 Tryz.f3 rfl rfl rfl rfl rfl rfl rfl ⟨rfl, rfl, rfl, rfl, rfl⟩ rfl rfl rfl rfl rfl (by kernel_rfl) Tryz.func3 (by kernel_rfl)
    (of_decide_eq_true (by kernel_rfl)) (by unfold Func.isWrapper; first | (rw [if_pos (by decide +kernel)]; kernel_rfl) | (rw [if_neg (by decide +kernel)]; exact ⟨rfl, rfl⟩))
    (fun os started H enc _ => rulesRead_lifted os started H enc)
theorem rulesRead_holds : Rows.RulesReadCardSaid :=
  Claim7.holds_tied_plain_at .later [] [.data, .pinned] true _ false
    rulesRead_said (fun _ h => by cases h) (by kernel_rfl) (fun _ h => by cases h) rulesRead_row_tie rfl ⟨rfl, rfl⟩ (by kernel_rfl) rfl
    (fun f fn hf hfn => by
      obtain rfl : f = 3 := Option.some.inj ((show Tryz.prog.funcNamed "fleuron/fleuronlaw4.RulesRead" = some 3 by kernel_rfl).symm.trans hf) |>.symm
      obtain rfl : fn = Tryz.f3 := (Option.some.inj (Tryz.func3.symm.trans hfn)).symm
      exact ⟨by kernel_rfl, fun j t ht => by
        have hall : (Tryz.f3.params.all fun u => !Tryz.prog.wantsStandIn u) = true := by kernel_rfl
        have hm : t ∈ Tryz.f3.params := Array.mem_of_getElem? ht
        rw [Array.all_eq_true_iff_forall_mem] at hall
        exact (show Tryz.prog.wantsStandIn t = false by simpa using hall t hm)⟩)
    (by kernel_rfl)
end Go.Proofs.YtiolnmfaeenlmaaGreatDoor
