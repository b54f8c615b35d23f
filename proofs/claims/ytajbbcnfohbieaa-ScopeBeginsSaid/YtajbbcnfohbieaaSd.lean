/- ScopeBegins: its small functions. -/
import Derived.Test.YtajbbcnfohbieaaSc
import Derived.Laws.StructEq
namespace Go.Proofs.Ytajbbcnfohbieaa
open Go Go.RowKit

section
variable {P : Program} {ops : Array Oper} {N : Nat} {K : AS → Prop} {o : Oper} {r : List Oper} {fo fo' : Option (List Nat)} {M : List AB} {F : List (Nat × AV)} {dt : Tmp}
/-- A call of a closure that only reads own memory. -/
theorem r_mrov {f : FuncId} {xs : Array Operand} {ts : Array TypeId} {t : Tmp} {M0 : List AB} {cargs caps : List AV} {res out : AV} (σ : List Nat) (hc : MCalls P f M0 cargs M0 res) (hcall : Callable P f) (hg : o.guard = none) (ho : o.op = .call { callee := .value (.tmp t), args := xs, argTypes := ts }) (ht : look F t = .cl f caps)
    (hemb : EmbM M (nth σ) σ M0) (hnd : σ.Nodup) (hargs : Subs (xs.toList.map (aval (look F)) ++ caps) (AV.rens (nth σ) cargs)) (hu : (AV.unders σ.length cargs && M0.all (AB.under σ.length)) = true)
    (hM' : setAll M σ (M0.map (AB.ren (nth σ))) = M) (hr : nf (res.ren (nth σ)) = some out) (hdd : o.dst = some dt) (hd : dstB o.dst N = true) (hp : popF fo 2 = some fo') (k : RunX P ops N K r fo' M ((dt, out) :: F)) : RunX P ops N K (o :: r) fo M F :=
  r_mcallv σ hc hcall hg ho ht hemb hnd hargs rfl hu hM' hr hdd hd hp k
end
def eqC (c d : Ctr) : Bool := decide (c.name = d.name) && (decide (c.of = d.of) && (decide (c.n = d.n) && decide (c.rev = d.rev)))
theorem eqC_self (c : Ctr) : eqC c c = true := by simp [eqC]
theorem run_eqC (c d : Ctr) (w : World) : (Op.equalIn 10000 55 (cV c) (cV d)).run Try.prog w = .ok (eqC c d) w := by
  have hS : Try.prog.underlying 55 = some (.struct (Try.prog.fieldsOf 55)) := by kernel_rfl
  have hp : Try.prog.stoodInHeld 55 = false := by kernel_rfl
  have us := Try.underlying9
  have ui := Try.underlying3
  have ub := Try.underlying4
  have hps := Try.isAgg9 w
  have hpi := Try.isAgg3 w
  have hpb := Try.isAgg4 w
  rw [show (10000 : Nat) = 9999 + 1 from rfl, cV, cV, run_equalIn_agg w 9999 _ _ _ hS hp]
  simp only [Program.fieldsOf, Try.underlying55, Op.eqFields, part, Sem.run_bind, Sem.run_ite, hps, hpi, hpb, Result.andThen_ok]
  simp [run_equalIn_string w 9998 _ _ _ us, run_equalIn_int w 9998 _ _ _ _ _ ui, run_equalIn_bool' w 9998 _ _ _ ub, ← beq_toListBytes, eqC]
  have hb : (c.name == d.name) = decide (c.name = d.name) := by rw [beq_toListBytes, ByteArray.toList_eq, ByteArray.toList_eq, Bool.eq_iff_iff, beq_iff_eq, decide_eq_true_eq, Array.toList_inj, ByteArray.ext_iff]
  rw [hb]
  by_cases h1 : c.name = d.name <;> by_cases h2 : c.of = d.of <;> by_cases h3 : c.n = d.n <;> by_cases h4 : c.rev = d.rev <;> simp [h1, h2, h3, h4]
theorem cV_of {c : Ctr} {M : List AB} {β : Env} {w : World} {imm : Nat → Prop} {v : Value} (h : AVsat M β w imm (cAV c) v) : v = cV c := by
  obtain ⟨⟨cs⟩, rfl, _, _, h1, rfl, _, _, h2, rfl, _, _, h3, rfl, _, _, h4, rfl, h5⟩ := h
  rw [h5] at h4; rw [h4] at h3; rw [h3] at h2; rw [h2] at h1
  simp only at h1
  rw [cV, h1]
section
variable {o : Oper} {M : List AB} {ρ : Operand → AV}
theorem astep_neqC {u : TypeId} {x y : Operand} {c d : Ctr} (ho : o.op = .binOp .neq 55 x y u) (hx : ρ x = cAV c) (hy : ρ y = cAV d) : AStep Try.prog o M ρ M (.val (.bool (!eqC c d))) :=
  .value fun S B β a w _ hs => by
    have h1 := hs x (by simp [ho, Op.operands])
    have h2 := hs y (by simp [ho, Op.operands])
    rw [hx] at h1; rw [hy] at h2
    have h1 := cV_of h1
    have h2 := cV_of h2
    refine ⟨_, ?_, rfl⟩
    have hg : (eqGuard .neq 55 x y (cV c) (cV d)).run Try.prog w = .ok () w := run_eqGuard_agg w _ _ _ _ _ _ (by kernel_rfl)
    have he : (binOp .neq 55 (cV c) (cV d)).run Try.prog w = .ok (.bool (!eqC c d)) w := by
      have := run_neq_struct (P := Try.prog) w 55 #[.string c.name, .int .i64 c.of, .int .i64 c.n, .bool c.rev] #[.string d.name, .int .i64 d.of, .int .i64 d.n, .bool d.rev]
      rw [← cV, ← cV, run_eqC] at this
      exact this
    simp only [execOp, ho, h1, h2, Sem.run_bind, hg, he, Result.andThen_ok]
    rfl
variable {ops : Array Oper} {N : Nat} {K : AS → Prop} {r : List Oper} {fo fo' : Option (List Nat)} {F : List (Nat × AV)} {dt : Tmp}
theorem r_neqC {u : TypeId} {x y : Operand} {c d : Ctr} (hg : o.guard = none) (ho : o.op = .binOp .neq 55 x y u) (hx : aval (look F) x = cAV c) (hy : aval (look F) y = cAV d) (hdd : o.dst = some dt) (hd : dstB o.dst N = true) (hp : popF fo 1 = some fo')
    (k : RunX Try.prog ops N K r fo' M ((dt, .val (.bool (!eqC c d))) :: F)) : RunX Try.prog ops N K (o :: r) fo M F :=
  RunX.mk (fun _ k => Run.quiet hd (StepG.plain hg (astep_neqC ho hx hy)) (by rw [put_eq hdd]; exact k)) hp k
end
theorem same_ok (l : List Ctr) (hl : l.length ≤ 100000) : PCalls Try.prog 16 [.sl 4 (l.map cD), .sl 4 (l.map cD)] (.val (.bool true)) := by
  refine p_start Try.func16 Try.ntmps16 rfl rfl rfl fun S w => ?_
  have hlm : (l.map cD).length = l.length := List.length_map _
  repeat (first
    | refine awp_seq ?_
    | refine thenA_normal ?_
    | refine a_region ?_
    | refine r_done ?_
    | (refine r_id ?_; first
      | refine r_len tab_ok rfl rfl rfl rfl rfl rfl rfl ?_
      | refine r_ev tab_ok rfl rfl rfl rfl (by first | exact trivial | exact ⟨by omega, by omega⟩ | omega | exact ⟨by omega, by omega, by omega, by omega⟩ | exact Nat.le_of_ble_eq_true rfl) rfl ?_))
  refine awp_cond rfl (fun h => ?_) (fun _ => ?_)
  · simp at h
  repeat (first
    | refine awp_seq ?_
    | refine thenA_normal ?_
    | refine awp_block ?_
    | refine a_region ?_
    | refine awp_skip ?_
    | refine r_done ?_
    | (refine r_id ?_; first
      | refine r_ev tab_ok rfl rfl rfl rfl (by first | exact trivial | exact ⟨by omega, by omega⟩ | omega | exact ⟨by omega, by omega, by omega, by omega⟩ | exact Nat.le_of_ble_eq_true rfl) rfl ?_))
  refine a_loop (σ := {i : Nat // i ≤ l.length}) (fun _ => []) (fun x => [(0, .sl 4 (l.map cD)), (1, .sl 4 (l.map cD)), (5, .val (.int .i64 x.1))]) (fun x => l.length - x.1) ⟨0, Nat.zero_le _⟩ (fits_conv (by repeat' first | exact trivial | exact rfl | (rw [List.map_append]; first | done | rfl) | exact c_sub rfl (Sub.refl _) rfl | exact c_nil rfl rfl | exact c_thaw rfl rfl rfl | exact c_row rfl rfl rfl | exact c_row rfl rfl (by rw [List.map_append]; first | done | rfl) | exact c_ptr rfl rfl rfl rfl | exact Or.inl ⟨c_sub rfl (Sub.refl _) rfl, c_ptr rfl rfl rfl rfl⟩ | exact c_alt rfl rfl rfl rfl | exact c_ro rfl rfl | exact c_eo rfl rfl | exact c_sub rfl (Sub.altl _ _) rfl | exact c_sub rfl (Sub.nil _) rfl | refine ⟨_, _, rfl, ?_, ?_⟩ | apply And.intro) (by repeat' first | exact trivial | exact rfl | (rw [List.map_append]; first | done | rfl) | exact c_sub rfl (Sub.refl _) rfl | exact c_nil rfl rfl | exact c_thaw rfl rfl rfl | exact c_row rfl rfl rfl | exact c_row rfl rfl (by rw [List.map_append]; first | done | rfl) | exact c_ptr rfl rfl rfl rfl | exact Or.inl ⟨c_sub rfl (Sub.refl _) rfl, c_ptr rfl rfl rfl rfl⟩ | exact c_alt rfl rfl rfl rfl | exact c_ro rfl rfl | exact c_eo rfl rfl | exact c_sub rfl (Sub.altl _ _) rfl | exact c_sub rfl (Sub.nil _) rfl | refine ⟨_, _, rfl, ?_, ?_⟩ | apply And.intro)) ?_
  rintro ⟨i, hi⟩
  dsimp only
  repeat (first
    | refine awp_seq ?_
    | refine thenA_normal ?_
    | refine a_region ?_
    | refine r_done ?_
    | (refine r_id ?_; first
      | refine r_len tab_ok rfl rfl rfl rfl rfl rfl rfl ?_
      | refine r_ev tab_ok rfl rfl rfl rfl (by first | exact trivial | exact ⟨by omega, by omega⟩ | omega | exact ⟨by omega, by omega, by omega, by omega⟩ | exact Nat.le_of_ble_eq_true rfl) rfl ?_))
  refine awp_cond_p rfl (fun hlt => ?_) (fun hge => ?_)
  · have hlt' : i < l.length := by omega
    repeat (first
      | refine awp_seq ?_
      | refine awp_block ?_
      | refine a_draw1 mixed_ok (by kernel_rfl) ?_
      | refine awp_skip ?_
      | (refine r_id ?_; first
        | refine r_ev tab_ok rfl rfl rfl rfl (by first | exact trivial | exact ⟨by omega, by omega⟩ | omega | exact ⟨by omega, by omega, by omega, by omega⟩ | exact Nat.le_of_ble_eq_true rfl) rfl ?_
        | refine r_idx tab_ok rfl rfl rfl rfl rfl rfl rfl (by first | exact ⟨by omega, by omega⟩ | (simp; omega)) rfl rfl ?_))
    refine r_neqC (c := l[((i : Nat) : Int).toNat]) (d := l[((i : Nat) : Int).toNat]) rfl rfl rfl rfl rfl rfl rfl ?_
    repeat (first
      | refine thenA_normal ?_
      | refine r_done' ?_)
    refine awp_cond rfl (fun h => ?_) (fun _ => ?_)
    · rw [eqC_self] at h; cases h
    repeat (first
      | refine thenA_normal ?_
      | refine a_region ?_
      | refine awp_skip ?_
      | refine r_done ?_
      | (refine r_id ?_; first
        | refine r_ev tab_ok rfl rfl rfl rfl (by first | exact trivial | exact ⟨by omega, by omega⟩ | omega | exact ⟨by omega, by omega, by omega, by omega⟩ | exact Nat.le_of_ble_eq_true rfl) rfl ?_))
    exact ⟨⟨i + 1, hlt'⟩, by dsimp only; omega, fits_conv (by repeat' first | exact trivial | exact rfl | (rw [List.map_append]; first | done | rfl) | exact c_sub rfl (Sub.refl _) rfl | exact c_nil rfl rfl | exact c_thaw rfl rfl rfl | exact c_row rfl rfl rfl | exact c_row rfl rfl (by rw [List.map_append]; first | done | rfl) | exact c_ptr rfl rfl rfl rfl | exact Or.inl ⟨c_sub rfl (Sub.refl _) rfl, c_ptr rfl rfl rfl rfl⟩ | exact c_alt rfl rfl rfl rfl | exact c_ro rfl rfl | exact c_eo rfl rfl | exact c_sub rfl (Sub.altl _ _) rfl | exact c_sub rfl (Sub.nil _) rfl | refine ⟨_, _, rfl, ?_, ?_⟩ | apply And.intro) (by repeat' first | exact trivial | exact rfl | (rw [List.map_append]; first | done | rfl) | exact c_sub rfl (Sub.refl _) rfl | exact c_nil rfl rfl | exact c_thaw rfl rfl rfl | exact c_row rfl rfl rfl | exact c_row rfl rfl (by rw [List.map_append]; first | done | rfl) | exact c_ptr rfl rfl rfl rfl | exact Or.inl ⟨c_sub rfl (Sub.refl _) rfl, c_ptr rfl rfl rfl rfl⟩ | exact c_alt rfl rfl rfl rfl | exact c_ro rfl rfl | exact c_eo rfl rfl | exact c_sub rfl (Sub.altl _ _) rfl | exact c_sub rfl (Sub.nil _) rfl | refine ⟨_, _, rfl, ?_, ?_⟩ | apply And.intro)⟩
  · repeat (first
      | refine awp_seq ?_
      | refine thenA_normal ?_
      | refine a_region ?_
      | refine awp_ret ?_
      | refine awp_exit ?_
      | refine r_done ?_
      | (refine r_id ?_; first
        | refine r_ev tab_ok rfl rfl rfl rfl (by first | exact trivial | exact ⟨by omega, by omega⟩ | omega | exact ⟨by omega, by omega, by omega, by omega⟩ | exact Nat.le_of_ble_eq_true rfl) rfl ?_)
      | refine ret1 (by first | exact .inl rfl | exact .inr rfl) rfl rfl rfl ?_)
    exact Sub.refl _
theorem flat_ok (l : List Ctr) (hl : l.length ≤ 100000) : PCalls Try.prog 17 [.sl 4 (l.map cD)] (.sl 4 (l.map cD)) := by
  refine p_start Try.func17 Try.ntmps17 rfl rfl rfl fun S w => ?_
  have hlm : (l.map cD).length = l.length := List.length_map _
  repeat (first
    | refine awp_seq ?_
    | refine thenA_normal ?_
    | refine awp_block ?_
    | refine a_region ?_
    | refine r_done ?_
    | (refine r_id ?_; first
      | refine r_ev tab_ok rfl rfl rfl rfl (by first | exact trivial | exact ⟨by omega, by omega⟩ | omega | exact ⟨by omega, by omega, by omega, by omega⟩ | exact Nat.le_of_ble_eq_true rfl) rfl ?_))
  refine a_loop (σ := {i : Nat // i ≤ l.length}) (fun x => [.row 0 55 4 ((l.take x.1).map cD)]) (fun x => [(0, .sl 4 (l.map cD)), (3, .row 0 0), (4, .val (.int .i64 x.1))]) (fun x => l.length - x.1) ⟨0, Nat.zero_le _⟩ (fits_conv (by repeat' first | exact trivial | exact rfl | (rw [List.map_append]; first | done | rfl) | exact c_sub rfl (Sub.refl _) rfl | exact c_nil rfl rfl | exact c_thaw rfl rfl rfl | exact c_row rfl rfl rfl | exact c_row rfl rfl (by rw [List.map_append]; first | done | rfl) | exact c_ptr rfl rfl rfl rfl | exact Or.inl ⟨c_sub rfl (Sub.refl _) rfl, c_ptr rfl rfl rfl rfl⟩ | exact c_alt rfl rfl rfl rfl | exact c_ro rfl rfl | exact c_eo rfl rfl | exact c_sub rfl (Sub.altl _ _) rfl | exact c_sub rfl (Sub.nil _) rfl | refine ⟨_, _, rfl, ?_, ?_⟩ | apply And.intro) ⟨c_sub rfl (Sub.refl _) rfl, c_nil rfl rfl, c_sub rfl (Sub.refl _) rfl, trivial⟩) ?_
  rintro ⟨i, hi⟩
  dsimp only
  have htl : (l.take i).length ≤ i := List.length_take_le _ _
  have hml : ((l.take i).map cD).length = (l.take i).length := List.length_map _
  repeat (first
    | refine awp_seq ?_
    | refine thenA_normal ?_
    | refine a_region ?_
    | refine r_done ?_
    | (refine r_id ?_; first
      | refine r_len tab_ok rfl rfl rfl rfl rfl rfl rfl ?_
      | refine r_ev tab_ok rfl rfl rfl rfl (by first | exact trivial | exact ⟨by omega, by omega⟩ | omega | exact ⟨by omega, by omega, by omega, by omega⟩ | exact Nat.le_of_ble_eq_true rfl) rfl ?_))
  refine awp_cond_p rfl (fun hlt => ?_) (fun hge => ?_)
  · have hlt' : i < l.length := by omega
    have e : (l.take (i + 1)).map cD = (l.take i).map cD ++ [cD l[i]] := by rw [take_at hlt', List.map_append]; rfl
    repeat (first
      | refine awp_seq ?_
      | refine awp_block ?_
      | refine awp_skip ?_)
    refine a_draw rfl (List.replicate 23 1 ++ [2, 1]) (by kernel_rfl) ?_
    repeat (first
      | refine thenA_normal ?_
      | refine a_region ?_
      | refine r_done ?_
      | refine r_done' ?_
      | (refine r_id ?_; first
        | refine r_ev tab_ok rfl rfl rfl rfl (by first | exact trivial | exact ⟨by omega, by omega⟩ | omega | exact ⟨by omega, by omega, by omega, by omega⟩ | exact Nat.le_of_ble_eq_true rfl) rfl ?_
        | refine r_idx tab_ok rfl rfl rfl rfl rfl rfl rfl (by first | exact ⟨by omega, by omega⟩ | (simp; omega)) rfl rfl ?_
        | refine r_build tab_ok rfl rfl rfl rfl rfl rfl ?_
        | refine r_built tab_ok rfl rfl rfl rfl rfl rfl rfl rfl rfl ?_
        | refine r_append tab_ok rfl rfl rfl rfl rfl rfl rfl rfl rfl (by first | omega | (simp; omega)) rfl ?_))
    exact ⟨⟨i + 1, hlt'⟩, by dsimp only; omega, fits_conv (by repeat' first | exact trivial | exact rfl | (rw [e]; first | done | rfl) | exact c_sub rfl (Sub.refl _) rfl | exact c_nil rfl rfl | exact c_thaw rfl rfl rfl | exact c_row rfl rfl rfl | exact c_row rfl rfl (by rw [e]; first | done | rfl) | exact c_ptr rfl rfl rfl rfl | exact Or.inl ⟨c_sub rfl (Sub.refl _) rfl, c_ptr rfl rfl rfl rfl⟩ | exact c_alt rfl rfl rfl rfl | exact c_sub rfl (Sub.altl _ _) rfl | exact c_sub rfl (Sub.nil _) rfl | refine ⟨_, _, rfl, ?_, ?_⟩ | apply And.intro) (by repeat' first | exact trivial | exact rfl | (rw [e]; first | done | rfl) | exact c_sub rfl (Sub.refl _) rfl | exact c_nil rfl rfl | exact c_thaw rfl rfl rfl | exact c_row rfl rfl rfl | exact c_row rfl rfl (by rw [e]; first | done | rfl) | exact c_ptr rfl rfl rfl rfl | exact Or.inl ⟨c_sub rfl (Sub.refl _) rfl, c_ptr rfl rfl rfl rfl⟩ | exact c_alt rfl rfl rfl rfl | exact c_sub rfl (Sub.altl _ _) rfl | exact c_sub rfl (Sub.nil _) rfl | refine ⟨_, _, rfl, ?_, ?_⟩ | apply And.intro)⟩
  · have e : l.take i = l := List.take_of_length_le (by omega)
    rw [e]
    repeat (first
      | refine awp_seq ?_
      | refine thenA_normal ?_
      | refine a_region ?_
      | refine awp_ret ?_
      | refine awp_exit ?_
      | refine r_done ?_
      | (refine r_id ?_; first
        | refine r_ev tab_ok rfl rfl rfl rfl (by first | exact trivial | exact ⟨by omega, by omega⟩ | omega | exact ⟨by omega, by omega, by omega, by omega⟩ | exact Nat.le_of_ble_eq_true rfl) rfl ?_)
      | refine ret1_row (by first | exact .inl rfl | exact .inr rfl) rfl rfl rfl ?_)
    exact Sub.refl _
def nm (j : Int) : Ctr := ⟨if j % 2 = 0 then sn else ⟨#[109]⟩, j / 2, 0, false⟩
def nmC (k : Int) : Ctr := nm (k % 6)
theorem name_ok (k : Int) : PCalls Try.prog 14 [.val (.int .i64 k)] (cAV (nmC k)) := by
  refine p_start Try.func14 Try.ntmps14 rfl rfl rfl fun S w => ?_
  have h0 := round_ok k 6 (by decide) (by decide)
  have h1 := Int.emod_nonneg k (b := 6) (by decide)
  have h2 := Int.emod_lt_of_pos k (b := 6) (by decide)
  unfold nmC
  generalize k % 6 = j at h0 h1 h2 ⊢
  repeat (first
    | refine awp_seq ?_
    | refine a_region ?_
    | refine r_done ?_
    | (refine r_id ?_; first
      | refine r_ev tab_ok rfl rfl rfl rfl (by first | exact trivial | exact ⟨by omega, by omega⟩ | omega | exact ⟨by omega, by omega, by omega, by omega⟩ | exact Nat.le_of_ble_eq_true rfl) rfl ?_
      | refine r_wr tab_ok rfl rfl rfl rfl rfl ?_))
  refine r_call h0 call11 rfl rfl ⟨Sub.refl _, Sub.refl _, trivial⟩ rfl rfl rfl rfl ?_
  have hj : j = 0 ∨ j = 1 ∨ j = 2 ∨ j = 3 ∨ j = 4 ∨ j = 5 := by omega
  rcases hj with rfl | rfl | rfl | rfl | rfl | rfl
  all_goals
    repeat (first
      | refine awp_seq ?_
      | refine thenA_normal ?_
      | refine a_region ?_
      | refine awp_ret ?_
      | refine r_done ?_
      | (refine r_id ?_; first
        | refine r_ev tab_ok rfl rfl rfl rfl (by first | exact trivial | exact ⟨by omega, by omega⟩ | omega | exact ⟨by omega, by omega, by omega, by omega⟩ | exact Nat.le_of_ble_eq_true rfl) rfl ?_
        | refine r_idxd tab_ok rfl rfl rfl rfl rfl rfl rfl (by decide) rfl rfl rfl ?_
        | refine r_st tab_ok rfl rfl rfl rfl ?_
        | refine r_build tab_ok rfl rfl rfl rfl rfl rfl ?_
        | refine r_built tab_ok rfl rfl rfl rfl rfl rfl rfl rfl rfl ?_))
  all_goals exact ret1c tab_ok (.inr rfl) rfl rfl rfl rfl rfl rfl (Sub.agg (by repeat' first | exact trivial | exact Sub.refl _ | exact Sub.nil _ | refine Sub.agg ?_ | apply And.intro))
theorem has_ok (l : List Ctr) (c : Ctr) (hl : l.length ≤ 100000) : PCalls Try.prog 15 [.sl 4 (l.map cD), cAV c] (.val (.bool (l.any (sameC c)))) := by
  refine p_start Try.func15 Try.ntmps15 rfl rfl rfl fun S w => ?_
  have hlm : (l.map cD).length = l.length := List.length_map _
  repeat (first
    | refine awp_seq ?_
    | refine thenA_normal ?_
    | refine awp_block ?_
    | refine a_region ?_
    | refine r_done ?_
    | (refine r_id ?_; first
      | refine r_ev tab_ok rfl rfl rfl rfl (by first | exact trivial | exact ⟨by omega, by omega⟩ | omega | exact ⟨by omega, by omega, by omega, by omega⟩ | exact Nat.le_of_ble_eq_true rfl) rfl ?_
      | refine r_wr tab_ok rfl rfl rfl rfl rfl ?_))
  refine a_loop (σ := {i : Nat // i ≤ l.length ∧ (l.take i).any (sameC c) = false}) (fun _ => [.box 38 [.val (.string c.name), .val (.int .i64 c.of), .val (.int .i64 c.n), .val (.bool c.rev)]]) (fun x => [(0, .sl 4 (l.map cD)), (3, .ptr 0 0), (5, .val (.int .i64 x.1))]) (fun x => l.length - x.1) ⟨0, Nat.zero_le _, rfl⟩ (fits_conv (by repeat' first | exact trivial | exact rfl | (rw [List.map_append]; first | done | rfl) | exact c_sub rfl (Sub.refl _) rfl | exact c_nil rfl rfl | exact c_thaw rfl rfl rfl | exact c_row rfl rfl rfl | exact c_row rfl rfl (by rw [List.map_append]; first | done | rfl) | exact c_ptr rfl rfl rfl rfl | exact Or.inl ⟨c_sub rfl (Sub.refl _) rfl, c_ptr rfl rfl rfl rfl⟩ | exact c_alt rfl rfl rfl rfl | exact c_ro rfl rfl | exact c_eo rfl rfl | exact c_sub rfl (Sub.altl _ _) rfl | exact c_sub rfl (Sub.nil _) rfl | refine ⟨_, _, rfl, ?_, ?_⟩ | apply And.intro) (by repeat' first | exact trivial | exact rfl | (rw [List.map_append]; first | done | rfl) | exact c_sub rfl (Sub.refl _) rfl | exact c_nil rfl rfl | exact c_thaw rfl rfl rfl | exact c_row rfl rfl rfl | exact c_row rfl rfl (by rw [List.map_append]; first | done | rfl) | exact c_ptr rfl rfl rfl rfl | exact Or.inl ⟨c_sub rfl (Sub.refl _) rfl, c_ptr rfl rfl rfl rfl⟩ | exact c_alt rfl rfl rfl rfl | exact c_ro rfl rfl | exact c_eo rfl rfl | exact c_sub rfl (Sub.altl _ _) rfl | exact c_sub rfl (Sub.nil _) rfl | refine ⟨_, _, rfl, ?_, ?_⟩ | apply And.intro)) ?_
  rintro ⟨i, hi, ha⟩
  dsimp only
  repeat (first
    | refine awp_seq ?_
    | refine thenA_normal ?_
    | refine a_region ?_
    | refine r_done ?_
    | (refine r_id ?_; first
      | refine r_len tab_ok rfl rfl rfl rfl rfl rfl rfl ?_
      | refine r_ev tab_ok rfl rfl rfl rfl (by first | exact trivial | exact ⟨by omega, by omega⟩ | omega | exact ⟨by omega, by omega, by omega, by omega⟩ | exact Nat.le_of_ble_eq_true rfl) rfl ?_))
  refine awp_cond_p rfl (fun hlt => ?_) (fun hge => ?_)
  · have hlt' : i < l.length := by omega
    repeat (first
      | refine awp_seq ?_
      | refine thenA_normal ?_
      | refine awp_block ?_
      | refine a_draw1 mixed_ok (by kernel_rfl) ?_
      | refine awp_skip ?_
      | refine r_done' ?_
      | (refine r_id ?_; first
        | refine r_ev tab_ok rfl rfl rfl rfl (by first | exact trivial | exact ⟨by omega, by omega⟩ | omega | exact ⟨by omega, by omega, by omega, by omega⟩ | exact Nat.le_of_ble_eq_true rfl) rfl ?_
        | refine r_ld tab_ok rfl rfl rfl rfl rfl ?_
        | refine r_idx tab_ok rfl rfl rfl rfl rfl rfl rfl (by first | exact ⟨by omega, by omega⟩ | (simp; omega)) rfl rfl ?_
        | refine r_ev_cnd tab_ok rfl rfl rfl rfl rfl rfl (by first | exact fun _ => rfl | exact cs1 | exact cs2 | exact cs3) (by first | exact fun _ => trivial | (intro h; simp at h; first | exact ⟨by omega, by omega⟩ | omega)) rfl ?_
        | refine r_ld_cnd tab_ok rfl rfl rfl rfl rfl rfl (by first | exact fun _ => rfl | exact cs1 | exact cs2 | exact cs3) rfl ?_
        | refine r_idx_cnd tab_ok rfl rfl rfl rfl rfl rfl rfl (by first | exact fun _ => rfl | exact cs1 | exact cs2) rfl rfl (by exact ⟨by omega, by omega⟩) rfl rfl ?_
        | refine r_and rfl rfl rfl rfl rfl rfl rfl rfl ?_))
    refine awp_cond rfl (fun h => ?_) (fun h => ?_)
    · have : l.any (sameC c) = true := List.any_eq_true.2 ⟨l[i], List.getElem_mem _, h⟩
      rw [this]
      repeat (first
        | refine awp_seq ?_
        | refine thenA_normal ?_
        | refine a_region ?_
        | refine awp_ret ?_
        | refine thenA_ret ?_
        | refine blockA_ret ?_
        | refine r_done ?_
        | (refine r_id ?_; first
          | refine r_ev tab_ok rfl rfl rfl rfl (by first | exact trivial | exact ⟨by omega, by omega⟩ | omega | exact ⟨by omega, by omega, by omega, by omega⟩ | exact Nat.le_of_ble_eq_true rfl) rfl ?_)
        | refine ret1 (by first | exact .inl rfl | exact .inr rfl) rfl rfl rfl ?_)
      exact Sub.refl _
    repeat (first
      | refine thenA_normal ?_
      | refine a_region ?_
      | refine awp_skip ?_
      | refine r_done ?_
      | (refine r_id ?_; first
        | refine r_ev tab_ok rfl rfl rfl rfl (by first | exact trivial | exact ⟨by omega, by omega⟩ | omega | exact ⟨by omega, by omega, by omega, by omega⟩ | exact Nat.le_of_ble_eq_true rfl) rfl ?_))
    exact ⟨⟨i + 1, hlt', by rw [take_at hlt', List.any_append, ha]; show (false || (sameC c l[i] || false)) = false; rw [Bool.or_false, Bool.false_or]; exact h⟩, by dsimp only; omega, fits_conv (by repeat' first | exact trivial | exact rfl | (rw [List.map_append]; first | done | rfl) | exact c_sub rfl (Sub.refl _) rfl | exact c_nil rfl rfl | exact c_thaw rfl rfl rfl | exact c_row rfl rfl rfl | exact c_row rfl rfl (by rw [List.map_append]; first | done | rfl) | exact c_ptr rfl rfl rfl rfl | exact Or.inl ⟨c_sub rfl (Sub.refl _) rfl, c_ptr rfl rfl rfl rfl⟩ | exact c_alt rfl rfl rfl rfl | exact c_ro rfl rfl | exact c_eo rfl rfl | exact c_sub rfl (Sub.altl _ _) rfl | exact c_sub rfl (Sub.nil _) rfl | refine ⟨_, _, rfl, ?_, ?_⟩ | apply And.intro) (by repeat' first | exact trivial | exact rfl | (rw [List.map_append]; first | done | rfl) | exact c_sub rfl (Sub.refl _) rfl | exact c_nil rfl rfl | exact c_thaw rfl rfl rfl | exact c_row rfl rfl rfl | exact c_row rfl rfl (by rw [List.map_append]; first | done | rfl) | exact c_ptr rfl rfl rfl rfl | exact Or.inl ⟨c_sub rfl (Sub.refl _) rfl, c_ptr rfl rfl rfl rfl⟩ | exact c_alt rfl rfl rfl rfl | exact c_ro rfl rfl | exact c_eo rfl rfl | exact c_sub rfl (Sub.altl _ _) rfl | exact c_sub rfl (Sub.nil _) rfl | refine ⟨_, _, rfl, ?_, ?_⟩ | apply And.intro)⟩
  · have e : l.take i = l := List.take_of_length_le (by omega)
    rw [e] at ha
    rw [ha]
    repeat (first
      | refine awp_seq ?_
      | refine thenA_normal ?_
      | refine a_region ?_
      | refine awp_ret ?_
      | refine awp_exit ?_
      | refine r_done ?_
      | (refine r_id ?_; first
        | refine r_ev tab_ok rfl rfl rfl rfl (by first | exact trivial | exact ⟨by omega, by omega⟩ | omega | exact ⟨by omega, by omega, by omega, by omega⟩ | exact Nat.le_of_ble_eq_true rfl) rfl ?_)
      | refine ret1 (by first | exact .inl rfl | exact .inr rfl) rfl rfl rfl ?_)
    exact Sub.refl _
end Go.Proofs.Ytajbbcnfohbieaa
