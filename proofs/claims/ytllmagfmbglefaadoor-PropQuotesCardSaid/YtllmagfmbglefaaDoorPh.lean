import Derived.Test.YtllmagfmbglefaaDoorP9
/- Equality of pairs and of items. -/
namespace Go.Proofs.YtllmagfmbglefaaDoor
open Go Go.RowKit
set_option maxRecDepth 20000

def eqPr (c d : Pr) : Bool := decide (c.name = d.name) && (decide (c.n = d.n) && (decide (c.rev = d.rev) && decide (c.auto = d.auto)))
theorem eqPr_self (c : Pr) : eqPr c c = true := by simp [eqPr]
def prV (c : Pr) : Value := .agg #[.string c.name, .int .i64 c.n, .bool c.rev, .bool c.auto]
theorem prV_of {c : Pr} {M : List AB} {β : Env} {w : World} {imm : Nat → Prop} {v : Value} (h : AVsat M β w imm (prA c) v) : v = prV c := by
  obtain ⟨⟨cs⟩, rfl, _, _, h1, rfl, _, _, h2, rfl, _, _, h3, rfl, _, _, h4, rfl, h5⟩ := h
  rw [h5] at h4; rw [h4] at h3; rw [h3] at h2; rw [h2] at h1
  simp only at h1
  rw [prV, h1]
theorem bs_eq (a b : ByteArray) : (a == b) = decide (a = b) := by rw [beq_toListBytes, ByteArray.toList_eq, ByteArray.toList_eq, Bool.eq_iff_iff, beq_iff_eq, decide_eq_true_eq, Array.toList_inj, ByteArray.ext_iff]
theorem run_eqPr (c d : Pr) (w : World) : (Op.equalIn 10000 66 (prV c) (prV d)).run Tryd.prog w = .ok (eqPr c d) w := by
  have hS : Tryd.prog.underlying 66 = some (.struct (Tryd.prog.fieldsOf 66)) := by kernel_rfl
  have hp : Tryd.prog.stoodInHeld 66 = false := by kernel_rfl
  have us := Tryd.underlying9
  have ui := Tryd.underlying3
  have ub := Tryd.underlying4
  have hps := Tryd.isAgg9 w
  have hpi := Tryd.isAgg3 w
  have hpb := Tryd.isAgg4 w
  rw [show (10000 : Nat) = 9999 + 1 from rfl, prV, prV, run_equalIn_agg w 9999 _ _ _ hS hp]
  simp only [Program.fieldsOf, Tryd.underlying66, Op.eqFields, part, Sem.run_bind, Sem.run_ite, hps, hpi, hpb, Result.andThen_ok]
  simp [run_equalIn_string w 9998 _ _ _ us, run_equalIn_int w 9998 _ _ _ _ _ ui, run_equalIn_bool' w 9998 _ _ _ ub, ← beq_toListBytes, eqPr]
  rw [bs_eq]
  by_cases h1 : c.name = d.name <;> by_cases h2 : c.n = d.n <;> by_cases h3 : c.rev = d.rev <;> by_cases h4 : c.auto = d.auto <;> simp [h1, h2, h3, h4]
def eqIt (c d : It) : Bool := decide (c.kind = d.kind) && (decide (c.text = d.text) && (decide (c.sep = d.sep) && decide (c.style = d.style)))
theorem eqIt_self (c : It) : eqIt c c = true := by simp [eqIt]
def itV (c : It) : Value := .agg #[.int .i64 c.kind, .string c.text, .string c.sep, .string c.style]
theorem itV_of {c : It} {M : List AB} {β : Env} {w : World} {imm : Nat → Prop} {v : Value} (h : AVsat M β w imm (itA c) v) : v = itV c := by
  obtain ⟨⟨cs⟩, rfl, _, _, h1, rfl, _, _, h2, rfl, _, _, h3, rfl, _, _, h4, rfl, h5⟩ := h
  rw [h5] at h4; rw [h4] at h3; rw [h3] at h2; rw [h2] at h1
  simp only at h1
  rw [itV, h1]
theorem run_eqIt (c d : It) (w : World) : (Op.equalIn 10000 68 (itV c) (itV d)).run Tryd.prog w = .ok (eqIt c d) w := by
  have hS : Tryd.prog.underlying 68 = some (.struct (Tryd.prog.fieldsOf 68)) := by kernel_rfl
  have hp : Tryd.prog.stoodInHeld 68 = false := by kernel_rfl
  have us := Tryd.underlying9
  have ui := Tryd.underlying3
  have hps := Tryd.isAgg9 w
  have hpi := Tryd.isAgg3 w
  rw [show (10000 : Nat) = 9999 + 1 from rfl, itV, itV, run_equalIn_agg w 9999 _ _ _ hS hp]
  simp only [Program.fieldsOf, Tryd.underlying68, Op.eqFields, part, Sem.run_bind, Sem.run_ite, hps, hpi, Result.andThen_ok]
  simp [run_equalIn_string w 9998 _ _ _ us, run_equalIn_int w 9998 _ _ _ _ _ ui, ← beq_toListBytes, eqIt]
  rw [bs_eq, bs_eq, bs_eq]
  by_cases h1 : c.kind = d.kind <;> by_cases h2 : c.text = d.text <;> by_cases h3 : c.sep = d.sep <;> by_cases h4 : c.style = d.style <;> simp [h1, h2, h3, h4]
section
variable {o : Oper} {M : List AB} {ρ : Operand → AV}
theorem astep_neqPr {u : TypeId} {x y : Operand} {c d : Pr} (ho : o.op = .binOp .neq 66 x y u) (hx : ρ x = prA c) (hy : ρ y = prA d) : AStep Tryd.prog o M ρ M (.val (.bool (!eqPr c d))) :=
  .value fun S B β a w _ hs => by
    have h1 := hs x (by simp [ho, Op.operands])
    have h2 := hs y (by simp [ho, Op.operands])
    rw [hx] at h1; rw [hy] at h2
    have h1 := prV_of h1
    have h2 := prV_of h2
    refine ⟨_, ?_, rfl⟩
    have hg : (eqGuard .neq 66 x y (prV c) (prV d)).run Tryd.prog w = .ok () w := run_eqGuard_agg w _ _ _ _ _ _ (by kernel_rfl)
    have he : (binOp .neq 66 (prV c) (prV d)).run Tryd.prog w = .ok (.bool (!eqPr c d)) w := by
      have := run_neq_struct (P := Tryd.prog) w 66 #[.string c.name, .int .i64 c.n, .bool c.rev, .bool c.auto] #[.string d.name, .int .i64 d.n, .bool d.rev, .bool d.auto]
      rw [← prV, ← prV, run_eqPr] at this
      exact this
    simp only [execOp, ho, h1, h2, Sem.run_bind, hg, he, Result.andThen_ok]
    rfl
theorem astep_eqPr {u : TypeId} {x y : Operand} {c d : Pr} (ho : o.op = .binOp .eql 66 x y u) (hx : ρ x = prA c) (hy : ρ y = prA d) : AStep Tryd.prog o M ρ M (.val (.bool (eqPr c d))) :=
  .value fun S B β a w _ hs => by
    have h1 := hs x (by simp [ho, Op.operands])
    have h2 := hs y (by simp [ho, Op.operands])
    rw [hx] at h1; rw [hy] at h2
    have h1 := prV_of h1
    have h2 := prV_of h2
    refine ⟨_, ?_, rfl⟩
    have hg : (eqGuard .eql 66 x y (prV c) (prV d)).run Tryd.prog w = .ok () w := run_eqGuard_agg w _ _ _ _ _ _ (by kernel_rfl)
    have he : (binOp .eql 66 (prV c) (prV d)).run Tryd.prog w = .ok (.bool (eqPr c d)) w := by
      have := run_eql_struct (P := Tryd.prog) w 66 #[.string c.name, .int .i64 c.n, .bool c.rev, .bool c.auto] #[.string d.name, .int .i64 d.n, .bool d.rev, .bool d.auto]
      rw [← prV, ← prV, run_eqPr] at this
      exact this
    simp only [execOp, ho, h1, h2, Sem.run_bind, hg, he, Result.andThen_ok]
    rfl
theorem astep_neqIt {u : TypeId} {x y : Operand} {c d : It} (ho : o.op = .binOp .neq 68 x y u) (hx : ρ x = itA c) (hy : ρ y = itA d) : AStep Tryd.prog o M ρ M (.val (.bool (!eqIt c d))) :=
  .value fun S B β a w _ hs => by
    have h1 := hs x (by simp [ho, Op.operands])
    have h2 := hs y (by simp [ho, Op.operands])
    rw [hx] at h1; rw [hy] at h2
    have h1 := itV_of h1
    have h2 := itV_of h2
    refine ⟨_, ?_, rfl⟩
    have hg : (eqGuard .neq 68 x y (itV c) (itV d)).run Tryd.prog w = .ok () w := run_eqGuard_agg w _ _ _ _ _ _ (by kernel_rfl)
    have he : (binOp .neq 68 (itV c) (itV d)).run Tryd.prog w = .ok (.bool (!eqIt c d)) w := by
      have := run_neq_struct (P := Tryd.prog) w 68 #[.int .i64 c.kind, .string c.text, .string c.sep, .string c.style] #[.int .i64 d.kind, .string d.text, .string d.sep, .string d.style]
      rw [← itV, ← itV, run_eqIt] at this
      exact this
    simp only [execOp, ho, h1, h2, Sem.run_bind, hg, he, Result.andThen_ok]
    rfl
theorem astep_eqIt {u : TypeId} {x y : Operand} {c d : It} (ho : o.op = .binOp .eql 68 x y u) (hx : ρ x = itA c) (hy : ρ y = itA d) : AStep Tryd.prog o M ρ M (.val (.bool (eqIt c d))) :=
  .value fun S B β a w _ hs => by
    have h1 := hs x (by simp [ho, Op.operands])
    have h2 := hs y (by simp [ho, Op.operands])
    rw [hx] at h1; rw [hy] at h2
    have h1 := itV_of h1
    have h2 := itV_of h2
    refine ⟨_, ?_, rfl⟩
    have hg : (eqGuard .eql 68 x y (itV c) (itV d)).run Tryd.prog w = .ok () w := run_eqGuard_agg w _ _ _ _ _ _ (by kernel_rfl)
    have he : (binOp .eql 68 (itV c) (itV d)).run Tryd.prog w = .ok (.bool (eqIt c d)) w := by
      have := run_eql_struct (P := Tryd.prog) w 68 #[.int .i64 c.kind, .string c.text, .string c.sep, .string c.style] #[.int .i64 d.kind, .string d.text, .string d.sep, .string d.style]
      rw [← itV, ← itV, run_eqIt] at this
      exact this
    simp only [execOp, ho, h1, h2, Sem.run_bind, hg, he, Result.andThen_ok]
    rfl
variable {ops : Array Oper} {N : Nat} {K : AS → Prop} {r : List Oper} {fo fo' : Option (List Nat)} {F : List (Nat × AV)} {dt : Tmp}
theorem r_neqPr {u : TypeId} {x y : Operand} {c d : Pr} (hg : o.guard = none) (ho : o.op = .binOp .neq 66 x y u) (hx : aval (look F) x = prA c) (hy : aval (look F) y = prA d) (hdd : o.dst = some dt) (hd : dstB o.dst N = true) (hp : popF fo 1 = some fo')
    (k : RunX Tryd.prog ops N K r fo' M ((dt, .val (.bool (!eqPr c d))) :: F)) : RunX Tryd.prog ops N K (o :: r) fo M F :=
  RunX.mk (fun _ k => Run.quiet hd (StepG.plain hg (astep_neqPr ho hx hy)) (by rw [put_eq hdd]; exact k)) hp k
theorem r_eqPr {u : TypeId} {x y : Operand} {c d : Pr} (hg : o.guard = none) (ho : o.op = .binOp .eql 66 x y u) (hx : aval (look F) x = prA c) (hy : aval (look F) y = prA d) (hdd : o.dst = some dt) (hd : dstB o.dst N = true) (hp : popF fo 1 = some fo')
    (k : RunX Tryd.prog ops N K r fo' M ((dt, .val (.bool (eqPr c d))) :: F)) : RunX Tryd.prog ops N K (o :: r) fo M F :=
  RunX.mk (fun _ k => Run.quiet hd (StepG.plain hg (astep_eqPr ho hx hy)) (by rw [put_eq hdd]; exact k)) hp k
theorem r_neqIt {u : TypeId} {x y : Operand} {c d : It} (hg : o.guard = none) (ho : o.op = .binOp .neq 68 x y u) (hx : aval (look F) x = itA c) (hy : aval (look F) y = itA d) (hdd : o.dst = some dt) (hd : dstB o.dst N = true) (hp : popF fo 1 = some fo')
    (k : RunX Tryd.prog ops N K r fo' M ((dt, .val (.bool (!eqIt c d))) :: F)) : RunX Tryd.prog ops N K (o :: r) fo M F :=
  RunX.mk (fun _ k => Run.quiet hd (StepG.plain hg (astep_neqIt ho hx hy)) (by rw [put_eq hdd]; exact k)) hp k
theorem r_eqIt {u : TypeId} {x y : Operand} {c d : It} (hg : o.guard = none) (ho : o.op = .binOp .eql 68 x y u) (hx : aval (look F) x = itA c) (hy : aval (look F) y = itA d) (hdd : o.dst = some dt) (hd : dstB o.dst N = true) (hp : popF fo 1 = some fo')
    (k : RunX Tryd.prog ops N K r fo' M ((dt, .val (.bool (eqIt c d))) :: F)) : RunX Tryd.prog ops N K (o :: r) fo M F :=
  RunX.mk (fun _ k => Run.quiet hd (StepG.plain hg (astep_eqIt ho hx hy)) (by rw [put_eq hdd]; exact k)) hp k
end
end Go.Proofs.YtllmagfmbglefaaDoor

/- fleuronalike and fleuronref12: Round, Texts, SamePairs, SameStyle of a thing and itself; Pairs, Style. -/
namespace Go.Proofs.YtllmagfmbglefaaDoor
open Go Go.RowKit
set_option maxRecDepth 20000

theorem round_eq (k n : Int) (hn : 0 < n) : (k.tmod n + n).tmod n = k % n := by
  have h1 := Int.tmod_lt_of_pos k hn
  have h2 := Int.lt_tmod_of_pos k hn
  rw [Int.tmod_eq_emod_of_nonneg (by omega), Int.add_emod_right, Int.tmod_eq_emod]
  split
  · simp
  · rw [Int.sub_emod, Int.emod_emod_of_dvd _ (Int.dvd_refl n)]
    have : ((n.natAbs : Int)) % n = 0 := by rw [Int.natAbs_of_nonneg (by omega)]; exact Int.emod_self
    rw [this]; simp
theorem round_ok (k n : Int) (hn0 : 0 < n) (hn : n ≤ 4611686018427387904) : PCalls Tryd.prog 11 [.val (.int .i64 k), .val (.int .i64 n)] (.val (.int .i64 (k % n))) := by
  refine p_start Tryd.func11 Tryd.ntmps11 rfl rfl rfl fun S w => ?_
  have h1 := Int.tmod_lt_of_pos k hn0
  have h2 := Int.lt_tmod_of_pos k hn0
  have h3 := round_eq k n hn0
  repeat (first | refine awp_seq ?_ | refine thenA_normal ?_ | refine a_region ?_ | refine awp_ret ?_ | refine r_done ?_ | (refine r_id ?_; first | refine r_ev tab_ok rfl rfl rfl rfl (by first | exact trivial | exact ⟨by omega, by omega⟩ | omega | exact ⟨by omega, by omega, by omega, by omega⟩ | exact Nat.le_of_ble_eq_true rfl) rfl ?_ | refine r_rem rfl rfl rfl rfl rfl rfl (by omega) rfl ?_) | refine ret1 (by first | exact .inl rfl | exact .inr rfl) rfl rfl rfl ?_)
  generalize k.tmod n = t at h1 h2 h3 ⊢
  exact Sub.of_eq (by rw [← h3, Int.tmod_eq_emod_of_nonneg (by omega)])
theorem texts_self (a : List ByteArray) (ha : a.length ≤ 1099511627776) : PCalls Tryd.prog 16 [.sl 1 (a.map sF), .sl 1 (a.map sF)] (.val (.bool true)) := by
  refine p_start Tryd.func16 Tryd.ntmps16 rfl rfl rfl fun S w => ?_
  have hla : (a.map sF).length = a.length := List.length_map _
  repeat (first | refine awp_seq ?_ | refine thenA_normal ?_ | refine a_region ?_ | refine r_done ?_ | (refine r_id ?_; first | refine r_len tab_ok rfl rfl rfl rfl rfl rfl rfl ?_ | refine r_ev tab_ok rfl rfl rfl rfl (by first | exact trivial | exact ⟨by omega, by omega⟩ | omega | exact ⟨by omega, by omega, by omega, by omega⟩ | exact Nat.le_of_ble_eq_true rfl) rfl ?_))
  refine awp_cond_n rfl (fun hne => absurd rfl hne) (fun hl => ?_)
  repeat (first | refine awp_seq ?_ | refine thenA_normal ?_ | refine awp_block ?_ | refine a_region ?_ | refine awp_skip ?_ | refine r_done ?_ | (refine r_id ?_; first | refine r_ev tab_ok rfl rfl rfl rfl (by first | exact trivial | exact ⟨by omega, by omega⟩ | omega | exact ⟨by omega, by omega, by omega, by omega⟩ | exact Nat.le_of_ble_eq_true rfl) rfl ?_))
  refine a_loop (σ := {i : Nat // i ≤ a.length}) (fun _ => []) (fun x => [(0, .sl 1 (a.map sF)), (1, .sl 1 (a.map sF)), (5, .val (.int .i64 x.1))]) (fun x => a.length - x.1) ⟨0, Nat.zero_le _⟩ (fits_of rfl (by repeat' first | exact trivial | exact Sub.refl _ | exact rfl | apply And.intro)) ?_
  rintro ⟨i, hi⟩
  dsimp only
  repeat (first | refine awp_seq ?_ | refine thenA_normal ?_ | refine a_region ?_ | refine r_done ?_ | (refine r_id ?_; first | refine r_len tab_ok rfl rfl rfl rfl rfl rfl rfl ?_ | refine r_ev tab_ok rfl rfl rfl rfl (by first | exact trivial | exact ⟨by omega, by omega⟩ | omega | exact ⟨by omega, by omega, by omega, by omega⟩ | exact Nat.le_of_ble_eq_true rfl) rfl ?_))
  refine awp_cond_p rfl (fun hlt => ?_) (fun hge => ?_)
  · have hlt : i < a.length := by omega
    repeat (first | refine awp_seq ?_ | refine thenA_normal ?_ | refine awp_block ?_ | refine a_draw1 mixed_ok (by kernel_rfl) ?_ | refine awp_skip ?_ | refine r_done' ?_ | (refine r_id ?_; first | refine r_ev tab_ok rfl rfl rfl rfl (by first | exact trivial | exact ⟨by omega, by omega⟩ | omega | exact ⟨by omega, by omega, by omega, by omega⟩ | exact Nat.le_of_ble_eq_true rfl) rfl ?_ | refine r_idx tab_ok rfl rfl rfl rfl rfl rfl rfl (by first | exact ⟨by omega, by omega⟩ | (simp; omega)) rfl rfl ?_))
    refine awp_cond_n rfl (fun hne => absurd rfl hne) (fun he => ?_)
    repeat (first | refine thenA_normal ?_ | refine a_region ?_ | refine awp_skip ?_ | refine r_done ?_ | (refine r_id ?_; first | refine r_ev tab_ok rfl rfl rfl rfl (by first | exact trivial | exact ⟨by omega, by omega⟩ | omega | exact ⟨by omega, by omega, by omega, by omega⟩ | exact Nat.le_of_ble_eq_true rfl) rfl ?_))
    exact ⟨⟨i + 1, hlt⟩, by dsimp only; omega, fits_of rfl (by repeat' first | exact trivial | exact Sub.refl _ | exact rfl | apply And.intro)⟩
  · repeat (first | refine awp_seq ?_ | refine thenA_normal ?_ | refine a_region ?_ | refine awp_ret ?_ | refine awp_exit ?_ | refine r_done ?_ | (refine r_id ?_; first | refine r_ev tab_ok rfl rfl rfl rfl (by first | exact trivial | exact ⟨by omega, by omega⟩ | omega | exact ⟨by omega, by omega, by omega, by omega⟩ | exact Nat.le_of_ble_eq_true rfl) rfl ?_) | refine ret1 (by first | exact .inl rfl | exact .inr rfl) rfl rfl rfl ?_)
    exact Sub.refl _
theorem spairs_self (a : List Pr) (ha : a.length ≤ 1099511627776) : PCalls Tryd.prog 31 [.sl 4 (a.map prD), .sl 4 (a.map prD)] (.val (.bool true)) := by
  refine p_start Tryd.func31 Tryd.ntmps31 rfl rfl rfl fun S w => ?_
  have hla : (a.map prD).length = a.length := List.length_map _
  repeat (first | refine awp_seq ?_ | refine thenA_normal ?_ | refine a_region ?_ | refine r_done ?_ | (refine r_id ?_; first | refine r_len tab_ok rfl rfl rfl rfl rfl rfl rfl ?_ | refine r_ev tab_ok rfl rfl rfl rfl (by first | exact trivial | exact ⟨by omega, by omega⟩ | omega | exact ⟨by omega, by omega, by omega, by omega⟩ | exact Nat.le_of_ble_eq_true rfl) rfl ?_))
  refine awp_cond_n rfl (fun hne => absurd rfl hne) (fun hl => ?_)
  repeat (first | refine awp_seq ?_ | refine thenA_normal ?_ | refine awp_block ?_ | refine a_region ?_ | refine awp_skip ?_ | refine r_done ?_ | (refine r_id ?_; first | refine r_ev tab_ok rfl rfl rfl rfl (by first | exact trivial | exact ⟨by omega, by omega⟩ | omega | exact ⟨by omega, by omega, by omega, by omega⟩ | exact Nat.le_of_ble_eq_true rfl) rfl ?_))
  refine a_loop (σ := {i : Nat // i ≤ a.length}) (fun _ => []) (fun x => [(0, .sl 4 (a.map prD)), (1, .sl 4 (a.map prD)), (5, .val (.int .i64 x.1))]) (fun x => a.length - x.1) ⟨0, Nat.zero_le _⟩ (fits_of rfl (by repeat' first | exact trivial | exact Sub.refl _ | exact rfl | apply And.intro)) ?_
  rintro ⟨i, hi⟩
  dsimp only
  repeat (first | refine awp_seq ?_ | refine thenA_normal ?_ | refine a_region ?_ | refine r_done ?_ | (refine r_id ?_; first | refine r_len tab_ok rfl rfl rfl rfl rfl rfl rfl ?_ | refine r_ev tab_ok rfl rfl rfl rfl (by first | exact trivial | exact ⟨by omega, by omega⟩ | omega | exact ⟨by omega, by omega, by omega, by omega⟩ | exact Nat.le_of_ble_eq_true rfl) rfl ?_))
  refine awp_cond_p rfl (fun hlt => ?_) (fun hge => ?_)
  · have hlt : i < a.length := by omega
    repeat (first | refine awp_seq ?_ | refine awp_block ?_ | refine a_draw1 mixed_ok (by kernel_rfl) ?_ | refine awp_skip ?_ | (refine r_id ?_; first | refine r_ev tab_ok rfl rfl rfl rfl (by first | exact trivial | exact ⟨by omega, by omega⟩ | omega | exact ⟨by omega, by omega, by omega, by omega⟩ | exact Nat.le_of_ble_eq_true rfl) rfl ?_ | refine r_idx tab_ok rfl rfl rfl rfl rfl rfl rfl (by first | exact ⟨by omega, by omega⟩ | (simp; omega)) rfl rfl ?_))
    refine r_neqPr (c := a[((i : Nat) : Int).toNat]'(by simp only [Int.toNat_natCast]; exact hlt)) (d := a[((i : Nat) : Int).toNat]'(by simp only [Int.toNat_natCast]; exact hlt)) rfl rfl rfl rfl rfl rfl rfl ?_
    rw [eqPr_self]
    repeat (first | refine thenA_normal ?_ | refine a_region ?_ | refine awp_skip ?_ | refine r_done ?_ | refine r_done' ?_ | (refine r_id ?_; first | refine r_ev tab_ok rfl rfl rfl rfl (by first | exact trivial | exact ⟨by omega, by omega⟩ | omega | exact ⟨by omega, by omega, by omega, by omega⟩ | exact Nat.le_of_ble_eq_true rfl) rfl ?_) | refine awp_cond_f rfl ?_)
    exact ⟨⟨i + 1, hlt⟩, by dsimp only; omega, fits_of rfl (by repeat' first | exact trivial | exact Sub.refl _ | exact rfl | apply And.intro)⟩
  · repeat (first | refine awp_seq ?_ | refine thenA_normal ?_ | refine a_region ?_ | refine awp_ret ?_ | refine awp_exit ?_ | refine r_done ?_ | (refine r_id ?_; first | refine r_ev tab_ok rfl rfl rfl rfl (by first | exact trivial | exact ⟨by omega, by omega⟩ | omega | exact ⟨by omega, by omega, by omega, by omega⟩ | exact Nat.le_of_ble_eq_true rfl) rfl ?_) | refine ret1 (by first | exact .inl rfl | exact .inr rfl) rfl rfl rfl ?_)
    exact Sub.refl _
/-- No list of a style is too long. -/
structure styL (s : Sty) : Prop where
  c : s.cont.length ≤ 1099511627776
  q : s.quotes.length ≤ 1099511627776
  r : s.reset.length ≤ 1099511627776
  a : s.add.length ≤ 1099511627776
  e : s.set.length ≤ 1099511627776
set_option maxHeartbeats 4000000 in
theorem sstyle_self (s : Sty) (h : styL s) : PCalls Tryd.prog 14 [stA s, stA s] (.val (.bool true)) := by
  refine p_start Tryd.func14 Tryd.ntmps14 rfl rfl rfl fun S w => ?_
  obtain ⟨h1, h2, h3, h4, h5⟩ := h
  have hl1 : (s.cont.map itD).length = s.cont.length := List.length_map _
  have hl2 : (s.quotes.map sF).length = s.quotes.length := List.length_map _
  repeat (first | refine awp_seq ?_ | refine a_region ?_ | refine r_done ?_ | (refine r_id ?_; first | refine r_ev tab_ok rfl rfl rfl rfl (by first | exact trivial | exact ⟨by omega, by omega⟩ | omega | exact ⟨by omega, by omega, by omega, by omega⟩ | exact Nat.le_of_ble_eq_true rfl) rfl ?_ | refine r_ld tab_ok rfl rfl rfl rfl rfl ?_ | refine r_wr tab_ok rfl rfl rfl rfl rfl ?_ | refine r_len_cnd tab_ok rfl rfl rfl rfl rfl rfl (by first | exact fun _ => rfl | exact cs1) rfl rfl rfl ?_ | refine r_ev_cnd tab_ok rfl rfl rfl rfl rfl rfl (by first | exact fun _ => rfl | exact cs1 | exact cs2 | exact cs3) (by first | exact fun _ => trivial | (intro h; simp at h; first | exact ⟨by omega, by omega⟩ | omega)) rfl ?_ | refine r_ld_cnd tab_ok rfl rfl rfl rfl rfl rfl (by first | exact fun _ => rfl | exact cs1 | exact cs2 | exact cs3) rfl ?_ | refine r_or rfl rfl rfl rfl rfl rfl rfl rfl ?_))
  refine r_call_cnd (fun _ => spairs_self s.reset h3) call31 rfl rfl rfl rfl (by first | exact fun _ => rfl | exact cs1 | exact cs2 | exact cs3) ⟨Sub.refl _, Sub.refl _, trivial⟩ rfl rfl rfl rfl ?_
  repeat (first | (refine r_id ?_; first | refine r_ev tab_ok rfl rfl rfl rfl (by first | exact trivial | exact ⟨by omega, by omega⟩ | omega | exact ⟨by omega, by omega, by omega, by omega⟩ | exact Nat.le_of_ble_eq_true rfl) rfl ?_ | refine r_ev_cnd tab_ok rfl rfl rfl rfl rfl rfl (by first | exact fun _ => rfl | exact cs1 | exact cs2 | exact cs3) (by first | exact fun _ => trivial | (intro h; simp at h; first | exact ⟨by omega, by omega⟩ | omega)) rfl ?_ | refine r_ld_cnd tab_ok rfl rfl rfl rfl rfl rfl (by first | exact fun _ => rfl | exact cs1 | exact cs2 | exact cs3) rfl ?_ | refine r_or rfl rfl rfl rfl rfl rfl rfl rfl ?_))
  refine r_call_cnd (fun _ => spairs_self s.add h4) call31 rfl rfl rfl rfl (by first | exact fun _ => rfl | exact cs1 | exact cs2 | exact cs3) ⟨Sub.refl _, Sub.refl _, trivial⟩ rfl rfl rfl rfl ?_
  repeat (first | (refine r_id ?_; first | refine r_ev tab_ok rfl rfl rfl rfl (by first | exact trivial | exact ⟨by omega, by omega⟩ | omega | exact ⟨by omega, by omega, by omega, by omega⟩ | exact Nat.le_of_ble_eq_true rfl) rfl ?_ | refine r_ev_cnd tab_ok rfl rfl rfl rfl rfl rfl (by first | exact fun _ => rfl | exact cs1 | exact cs2 | exact cs3) (by first | exact fun _ => trivial | (intro h; simp at h; first | exact ⟨by omega, by omega⟩ | omega)) rfl ?_ | refine r_ld_cnd tab_ok rfl rfl rfl rfl rfl rfl (by first | exact fun _ => rfl | exact cs1 | exact cs2 | exact cs3) rfl ?_ | refine r_or rfl rfl rfl rfl rfl rfl rfl rfl ?_))
  refine r_call_cnd (fun _ => spairs_self s.set h5) call31 rfl rfl rfl rfl (by first | exact fun _ => rfl | exact cs1 | exact cs2 | exact cs3) ⟨Sub.refl _, Sub.refl _, trivial⟩ rfl rfl rfl rfl ?_
  repeat (first | refine thenA_normal ?_ | refine r_done ?_ | (refine r_id ?_; first | refine r_ev_cnd tab_ok rfl rfl rfl rfl rfl rfl (by first | exact fun _ => rfl | exact cs1 | exact cs2 | exact cs3) (by first | exact fun _ => trivial | (intro h; simp at h; first | exact ⟨by omega, by omega⟩ | omega)) rfl ?_ | refine r_or rfl rfl rfl rfl rfl rfl rfl rfl ?_))
  refine awp_cond rfl (fun h => ?_) (fun _ => ?_)
  · exfalso
    simp at h
  repeat (first | refine awp_seq ?_ | refine thenA_normal ?_ | refine awp_block ?_ | refine a_region ?_ | refine awp_skip ?_ | refine r_done ?_ | (refine r_id ?_; first | refine r_ev tab_ok rfl rfl rfl rfl (by first | exact trivial | exact ⟨by omega, by omega⟩ | omega | exact ⟨by omega, by omega, by omega, by omega⟩ | exact Nat.le_of_ble_eq_true rfl) rfl ?_))
  refine a_loop (σ := {i : Nat // i ≤ s.cont.length}) (fun _ => [.box 28 (stC s), .box 28 (stC s)]) (fun x => [(2, .ptr 0 0), (3, .ptr 1 0), (5, .val (.int .i64 x.1))]) (fun x => s.cont.length - x.1) ⟨0, Nat.zero_le _⟩ (fits_of rfl (by repeat' first | exact trivial | exact Sub.refl _ | exact rfl | apply And.intro)) ?_
  rintro ⟨i, hi⟩
  dsimp only
  repeat (first | refine awp_seq ?_ | refine thenA_normal ?_ | refine a_region ?_ | refine r_done ?_ | (refine r_id ?_; first | refine r_len tab_ok rfl rfl rfl rfl rfl rfl rfl ?_ | refine r_ev tab_ok rfl rfl rfl rfl (by first | exact trivial | exact ⟨by omega, by omega⟩ | omega | exact ⟨by omega, by omega, by omega, by omega⟩ | exact Nat.le_of_ble_eq_true rfl) rfl ?_ | refine r_ld tab_ok rfl rfl rfl rfl rfl ?_))
  refine awp_cond_p rfl (fun hlt => ?_) (fun hge => ?_)
  · have hlt : i < s.cont.length := by omega
    repeat (first | refine awp_seq ?_ | refine awp_block ?_ | refine a_draw1 mixed_ok (by kernel_rfl) ?_ | refine awp_skip ?_ | (refine r_id ?_; first | refine r_ev tab_ok rfl rfl rfl rfl (by first | exact trivial | exact ⟨by omega, by omega⟩ | omega | exact ⟨by omega, by omega, by omega, by omega⟩ | exact Nat.le_of_ble_eq_true rfl) rfl ?_ | refine r_ld tab_ok rfl rfl rfl rfl rfl ?_ | refine r_idx tab_ok rfl rfl rfl rfl rfl rfl rfl (by first | exact ⟨by omega, by omega⟩ | (simp; omega)) rfl rfl ?_))
    refine r_neqIt (c := s.cont[((i : Nat) : Int).toNat]'(by simp only [Int.toNat_natCast]; exact hlt)) (d := s.cont[((i : Nat) : Int).toNat]'(by simp only [Int.toNat_natCast]; exact hlt)) rfl rfl rfl rfl rfl rfl rfl ?_
    rw [eqIt_self]
    repeat (first | refine thenA_normal ?_ | refine a_region ?_ | refine awp_skip ?_ | refine r_done ?_ | refine r_done' ?_ | (refine r_id ?_; first | refine r_ev tab_ok rfl rfl rfl rfl (by first | exact trivial | exact ⟨by omega, by omega⟩ | omega | exact ⟨by omega, by omega, by omega, by omega⟩ | exact Nat.le_of_ble_eq_true rfl) rfl ?_) | refine awp_cond_f rfl ?_)
    exact ⟨⟨i + 1, hlt⟩, by dsimp only; omega, fits_of rfl (by repeat' first | exact trivial | exact Sub.refl _ | exact rfl | apply And.intro)⟩
  repeat (first | refine awp_seq ?_ | refine thenA_normal ?_ | refine awp_block ?_ | refine a_region ?_ | refine awp_exit ?_ | refine r_done ?_ | (refine r_id ?_; first | refine r_ev tab_ok rfl rfl rfl rfl (by first | exact trivial | exact ⟨by omega, by omega⟩ | omega | exact ⟨by omega, by omega, by omega, by omega⟩ | exact Nat.le_of_ble_eq_true rfl) rfl ?_))
  refine a_loop (σ := {i : Nat // i ≤ s.quotes.length}) (fun _ => [.box 28 (stC s), .box 28 (stC s)]) (fun x => [(2, .ptr 0 0), (3, .ptr 1 0), (6, .val (.int .i64 x.1))]) (fun x => s.quotes.length - x.1) ⟨0, Nat.zero_le _⟩ (fits_of rfl (by repeat' first | exact trivial | exact Sub.refl _ | exact rfl | apply And.intro)) ?_
  rintro ⟨i, hi⟩
  dsimp only
  repeat (first | refine awp_seq ?_ | refine thenA_normal ?_ | refine a_region ?_ | refine r_done ?_ | (refine r_id ?_; first | refine r_len tab_ok rfl rfl rfl rfl rfl rfl rfl ?_ | refine r_ev tab_ok rfl rfl rfl rfl (by first | exact trivial | exact ⟨by omega, by omega⟩ | omega | exact ⟨by omega, by omega, by omega, by omega⟩ | exact Nat.le_of_ble_eq_true rfl) rfl ?_ | refine r_ld tab_ok rfl rfl rfl rfl rfl ?_))
  refine awp_cond_p rfl (fun hlt => ?_) (fun hge => ?_)
  · have hlt : i < s.quotes.length := by omega
    repeat (first | refine awp_seq ?_ | refine thenA_normal ?_ | refine awp_block ?_ | refine a_draw1 mixed_ok (by kernel_rfl) ?_ | refine awp_skip ?_ | refine r_done' ?_ | (refine r_id ?_; first | refine r_ev tab_ok rfl rfl rfl rfl (by first | exact trivial | exact ⟨by omega, by omega⟩ | omega | exact ⟨by omega, by omega, by omega, by omega⟩ | exact Nat.le_of_ble_eq_true rfl) rfl ?_ | refine r_ld tab_ok rfl rfl rfl rfl rfl ?_ | refine r_idx tab_ok rfl rfl rfl rfl rfl rfl rfl (by first | exact ⟨by omega, by omega⟩ | (simp; omega)) rfl rfl ?_))
    refine awp_cond_n rfl (fun hne => absurd rfl hne) (fun he => ?_)
    repeat (first | refine thenA_normal ?_ | refine a_region ?_ | refine awp_skip ?_ | refine r_done ?_ | (refine r_id ?_; first | refine r_ev tab_ok rfl rfl rfl rfl (by first | exact trivial | exact ⟨by omega, by omega⟩ | omega | exact ⟨by omega, by omega, by omega, by omega⟩ | exact Nat.le_of_ble_eq_true rfl) rfl ?_))
    exact ⟨⟨i + 1, hlt⟩, by dsimp only; omega, fits_of rfl (by repeat' first | exact trivial | exact Sub.refl _ | exact rfl | apply And.intro)⟩
  repeat (first | refine awp_seq ?_ | refine thenA_normal ?_ | refine a_region ?_ | refine awp_ret ?_ | refine awp_exit ?_ | refine r_done ?_ | (refine r_id ?_; first | refine r_ev tab_ok rfl rfl rfl rfl (by first | exact trivial | exact ⟨by omega, by omega⟩ | omega | exact ⟨by omega, by omega, by omega, by omega⟩ | exact Nat.le_of_ble_eq_true rfl) rfl ?_) | refine ret1 (by first | exact .inl rfl | exact .inr rfl) rfl rfl rfl ?_)
  exact Sub.refl _
def prsB (l : List Pr) : Bool := (l.take 50).all (fun p => !decide (100 < p.name.size)) && decide (l.length ≤ 40)
theorem alpairs_ok (l : List Pr) (hl : l.length ≤ 9223372036854775807) : PCalls Tryd.prog 32 [.sl 4 (l.map prD)] (.val (.bool (prsB l))) := by
  refine p_start Tryd.func32 Tryd.ntmps32 rfl rfl rfl fun S w => ?_
  have hlm : (l.map prD).length = l.length := List.length_map _
  repeat (first | refine awp_seq ?_ | refine thenA_normal ?_ | refine awp_block ?_ | refine a_region ?_ | refine r_done ?_ | (refine r_id ?_; first | refine r_ev tab_ok rfl rfl rfl rfl (by first | exact trivial | exact ⟨by omega, by omega⟩ | omega | exact ⟨by omega, by omega, by omega, by omega⟩ | exact Nat.le_of_ble_eq_true rfl) rfl ?_))
  refine a_loop (σ := {i : Nat // i ≤ l.length ∧ i ≤ 50 ∧ (l.take i).all (fun p => !decide (100 < p.name.size)) = true}) (fun _ => []) (fun x => [(0, .sl 4 (l.map prD)), (3, .val (.int .i64 x.1))]) (fun x => l.length - x.1) ⟨0, Nat.zero_le _, Nat.zero_le _, rfl⟩ (fits_of rfl (by repeat' first | exact trivial | exact Sub.refl _ | exact rfl | apply And.intro)) ?_
  rintro ⟨i, hi, hi2, hok⟩
  dsimp only
  by_cases hlt : i < l.length
  · by_cases h50 : i < 50
    · have htk : ∀ b, (l.take (i + 1)).all b = ((l.take i).all b && b l[i]) := fun b => by
        rw [List.take_add_one, List.getElem?_eq_getElem hlt, List.all_append]
        simp
      repeat (first | refine awp_seq ?_ | refine thenA_normal ?_ | refine a_region ?_ | refine r_done ?_ | (refine r_id ?_; first | refine r_len tab_ok rfl rfl rfl rfl rfl rfl rfl ?_ | refine r_ev tab_ok rfl rfl rfl rfl (by first | exact trivial | exact ⟨by omega, by omega⟩ | omega | exact ⟨by omega, by omega, by omega, by omega⟩ | exact Nat.le_of_ble_eq_true rfl) rfl ?_) | refine r_g rfl rfl (congrArg (fun b => AV.val (.bool b)) (decide_eq_true (by omega))) ?_ | refine r_pick_t rfl rfl (congrArg (fun b => AV.val (.bool b)) (decide_eq_true (by omega))) rfl rfl rfl rfl ?_)
      refine awp_cond_p rfl (fun _ => ?_) (fun h => absurd (show (i : Int) < 50 by omega) h)
      repeat (first | refine awp_seq ?_ | refine thenA_normal ?_ | refine awp_block ?_ | refine a_region ?_ | refine awp_skip ?_ | refine r_done ?_ | (refine r_id ?_; first | refine r_ev tab_ok rfl rfl rfl rfl (by first | exact trivial | exact ⟨by omega, by omega⟩ | omega | exact ⟨by omega, by omega, by omega, by omega⟩ | exact Nat.le_of_ble_eq_true rfl) rfl ?_ | refine r_idx tab_ok rfl rfl rfl rfl rfl rfl rfl (by first | exact ⟨by omega, by omega⟩ | (simp; omega)) rfl rfl ?_))
      refine awp_cond_p rfl (fun hbig => ?_) (fun hsm => ?_)
      · repeat (first | refine awp_seq ?_ | refine thenA_normal ?_ | refine a_region ?_ | refine awp_ret ?_ | refine thenA_ret ?_ | refine blockA_ret ?_ | refine r_done ?_ | (refine r_id ?_; first | refine r_ev tab_ok rfl rfl rfl rfl (by first | exact trivial | exact ⟨by omega, by omega⟩ | omega | exact ⟨by omega, by omega, by omega, by omega⟩ | exact Nat.le_of_ble_eq_true rfl) rfl ?_) | refine ret1 (by first | exact .inl rfl | exact .inr rfl) rfl rfl rfl ?_)
        refine Sub.of_eq (congrArg (fun b => AV.val (.bool b)) ?_)
        have hb : 100 < l[i].name.size := by simp at hbig; omega
        rw [prsB, show (l.take 50).all (fun p => !decide (100 < p.name.size)) = false from ?_, Bool.false_and]
        rw [List.all_eq_false]
        exact ⟨l[i], List.mem_take_iff_getElem.2 ⟨i, by omega, rfl⟩, by simp [hb]⟩
      · repeat (first | refine thenA_normal ?_ | refine a_region ?_ | refine awp_skip ?_ | refine r_done ?_ | (refine r_id ?_; first | refine r_ev tab_ok rfl rfl rfl rfl (by first | exact trivial | exact ⟨by omega, by omega⟩ | omega | exact ⟨by omega, by omega, by omega, by omega⟩ | exact Nat.le_of_ble_eq_true rfl) rfl ?_))
        have hb : ¬ 100 < l[i].name.size := by simp at hsm; omega
        exact ⟨⟨i + 1, hlt, h50, by rw [htk, hok]; simp [hb]⟩, by dsimp only; omega, fits_of rfl (by repeat' first | exact trivial | exact Sub.refl _ | exact rfl | apply And.intro)⟩
    · have : i = 50 := by omega
      subst this
      repeat (first | refine awp_seq ?_ | refine thenA_normal ?_ | refine a_region ?_ | refine awp_ret ?_ | refine awp_exit ?_ | refine r_done ?_ | (refine r_id ?_; first | refine r_len tab_ok rfl rfl rfl rfl rfl rfl rfl ?_ | refine r_ev tab_ok rfl rfl rfl rfl (by first | exact trivial | exact ⟨by omega, by omega⟩ | omega | exact ⟨by omega, by omega, by omega, by omega⟩ | exact Nat.le_of_ble_eq_true rfl) rfl ?_) | refine ret1 (by first | exact .inl rfl | exact .inr rfl) rfl rfl rfl ?_ | refine awp_cond_f rfl ?_ | refine r_g rfl rfl (congrArg (fun b => AV.val (.bool b)) (decide_eq_true (by omega))) ?_ | refine r_pick_t rfl rfl (congrArg (fun b => AV.val (.bool b)) (decide_eq_true (by omega))) rfl rfl rfl rfl ?_)
      exact Sub.of_eq (by rw [prsB, hok, Bool.true_and]; exact congrArg (fun b => AV.val (.bool b)) (decide_eq_decide.2 (by omega)))
  · have : i = l.length := by omega
    subst this
    rw [List.take_length] at hok
    repeat (first | refine awp_seq ?_ | refine thenA_normal ?_ | refine a_region ?_ | refine awp_ret ?_ | refine awp_exit ?_ | refine r_done ?_ | (refine r_id ?_; first | refine r_len tab_ok rfl rfl rfl rfl rfl rfl rfl ?_ | refine r_ev tab_ok rfl rfl rfl rfl (by first | exact trivial | exact ⟨by omega, by omega⟩ | omega | exact ⟨by omega, by omega, by omega, by omega⟩ | exact Nat.le_of_ble_eq_true rfl) rfl ?_) | refine ret1 (by first | exact .inl rfl | exact .inr rfl) rfl rfl rfl ?_ | refine awp_cond_f rfl ?_ | refine r_pick_f rfl rfl (congrArg (fun b => AV.val (.bool b)) (decide_eq_false (by omega))) rfl rfl rfl rfl ?_ | refine r_off rfl rfl (congrArg (fun b => AV.val (.bool b)) (decide_eq_false (by omega))) rfl rfl rfl ?_)
    exact Sub.of_eq (by rw [prsB, List.take_of_length_le (by omega), hok, Bool.true_and]; exact congrArg (fun b => AV.val (.bool b)) (decide_eq_decide.2 (by omega)))
end Go.Proofs.YtllmagfmbglefaaDoor
