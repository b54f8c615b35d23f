/- slices.Clone of what a style has; prop.Copy, Take, and the document's; walked. -/
import Derived.Test.YtllmagfmbglefaaDoorPh
namespace Go.Proofs.YtllmagfmbglefaaDoor
open Go Go.RowKit
set_option maxRecDepth 20000

section
variable {P : Program} {ops : Array Oper} {N : Nat} {K : AS → Prop} {o : Oper} {r : List Oper} {fo fo' : Option (List Nat)} {M M' : List AB} {F : List (Nat × AV)} {dt : Tmp} {out : AV} {tab : List (Nat × TE)}
theorem r_ldm (m : Nat) (ht : TyTab P tab) {T i off e : Nat} {te : TE} {x : Operand} {cells : List AV} {y : AV} (hg : o.guard = none) (ho : o.op = .load T x) (hT : tget tab T = some te) (hx : aval (look F) x = .ptr i off) (hM : M[i]? = some (.box e cells)) (hb : Nat.testBit m i = true)
    (hl : loadAV te (cells.drop off) = some y) (hy : nf y = some out) (hdd : o.dst = some dt) (hd : dstB o.dst N = true) (hp : popF fo (2 * m + 9) = some fo') (k : RunX P ops N K r fo' M ((dt, out) :: F)) : RunX P ops N K (o :: r) fo M F :=
  r_byrd m (fun _ h => astep_load ht ho hT hx (agree_at i h hb hM) hl) hg hy hdd hd hp k
theorem r_stm (m : Nat) (ht : TyTab P tab) (hg : o.guard = none) (he : wrM tab M (aval (look F)) o.op = some (M', out)) (hM : Agree m M M') (hdd : o.dst = none) (hp : popF fo (2 * m + 1 + 9) = some fo') (k : RunX P ops N K r fo' M' F) : RunX P ops N K (o :: r) fo M F :=
  RunX.mk (fun _ k => Run.kp (by rw [hdd]; rfl) hM (StepG.plain hg (wrM_sound ht he)) (by rw [put_none hdd]; exact k)) hp k
end
theorem cloneIt_ok (l : List It) (h : l.length ≤ 1099511627776) : PCalls Tryd.prog 56 [.sl 4 (l.map itD)] (.sl 4 (l.map itD)) := by
  refine p_start Tryd.func56 Tryd.ntmps56 rfl rfl rfl fun S w => ?_
  have hlm : (l.map itD).length = l.length := List.length_map _
  repeat (first | refine awp_seq ?_ | refine thenA_normal ?_ | refine a_region ?_ | refine r_done ?_ | (refine r_id ?_; first | refine r_ev tab_ok rfl rfl rfl rfl (by first | exact trivial | exact ⟨by omega, by omega⟩ | omega | exact ⟨by omega, by omega, by omega, by omega⟩ | exact Nat.le_of_ble_eq_true rfl) rfl ?_))
  refine awp_cond_u rfl (fun h => ?_) (fun _ => ?_)
  · repeat (first | refine awp_seq ?_ | refine thenA_normal ?_ | refine a_region ?_ | refine awp_ret ?_ | refine thenA_ret ?_ | refine r_done ?_ | (refine r_id ?_; first | refine r_ev tab_ok rfl rfl rfl rfl (by first | exact trivial | exact ⟨by omega, by omega⟩ | omega | exact ⟨by omega, by omega, by omega, by omega⟩ | exact Nat.le_of_ble_eq_true rfl) rfl ?_) | refine ret1 (by first | exact .inl rfl | exact .inr rfl) rfl rfl rfl ?_)
    have : l = [] := by simpa using h
    subst this
    exact Sub.nil 4
  · repeat (first | refine awp_seq ?_ | refine thenA_normal ?_ | refine a_region ?_ | refine awp_ret ?_ | refine awp_skip ?_ | refine r_done ?_ | (refine r_id ?_; first | refine r_ev tab_ok rfl rfl rfl rfl (by first | exact trivial | exact ⟨by omega, by omega⟩ | omega | exact ⟨by omega, by omega, by omega, by omega⟩ | exact Nat.le_of_ble_eq_true rfl) rfl ?_ | refine r_built0 tab_ok rfl rfl rfl rfl rfl rfl rfl ?_ | refine r_append tab_ok rfl rfl rfl rfl rfl rfl rfl rfl rfl (by first | omega | (simp; omega)) rfl ?_) | refine ret1_row (by first | exact .inl rfl | exact .inr rfl) rfl rfl rfl ?_)
    exact Sub.refl _
theorem clonePr_ok (l : List Pr) (h : l.length ≤ 1099511627776) : PCalls Tryd.prog 58 [.sl 4 (l.map prD)] (.sl 4 (l.map prD)) := by
  refine p_start Tryd.func58 Tryd.ntmps58 rfl rfl rfl fun S w => ?_
  have hlm : (l.map prD).length = l.length := List.length_map _
  repeat (first | refine awp_seq ?_ | refine thenA_normal ?_ | refine a_region ?_ | refine r_done ?_ | (refine r_id ?_; first | refine r_ev tab_ok rfl rfl rfl rfl (by first | exact trivial | exact ⟨by omega, by omega⟩ | omega | exact ⟨by omega, by omega, by omega, by omega⟩ | exact Nat.le_of_ble_eq_true rfl) rfl ?_))
  refine awp_cond_u rfl (fun h => ?_) (fun _ => ?_)
  · repeat (first | refine awp_seq ?_ | refine thenA_normal ?_ | refine a_region ?_ | refine awp_ret ?_ | refine thenA_ret ?_ | refine r_done ?_ | (refine r_id ?_; first | refine r_ev tab_ok rfl rfl rfl rfl (by first | exact trivial | exact ⟨by omega, by omega⟩ | omega | exact ⟨by omega, by omega, by omega, by omega⟩ | exact Nat.le_of_ble_eq_true rfl) rfl ?_) | refine ret1 (by first | exact .inl rfl | exact .inr rfl) rfl rfl rfl ?_)
    have : l = [] := by simpa using h
    subst this
    exact Sub.nil 4
  · repeat (first | refine awp_seq ?_ | refine thenA_normal ?_ | refine a_region ?_ | refine awp_ret ?_ | refine awp_skip ?_ | refine r_done ?_ | (refine r_id ?_; first | refine r_ev tab_ok rfl rfl rfl rfl (by first | exact trivial | exact ⟨by omega, by omega⟩ | omega | exact ⟨by omega, by omega, by omega, by omega⟩ | exact Nat.le_of_ble_eq_true rfl) rfl ?_ | refine r_built0 tab_ok rfl rfl rfl rfl rfl rfl rfl ?_ | refine r_append tab_ok rfl rfl rfl rfl rfl rfl rfl rfl rfl (by first | omega | (simp; omega)) rfl ?_) | refine ret1_row (by first | exact .inl rfl | exact .inr rfl) rfl rfl rfl ?_)
    exact Sub.refl _
theorem cloneS_ok (l : List ByteArray) (h : l.length ≤ 1099511627776) : PCalls Tryd.prog 57 [.sl 1 (l.map sF)] (.sl 1 (l.map sF)) := by
  refine p_start Tryd.func57 Tryd.ntmps57 rfl rfl rfl fun S w => ?_
  have hlm : (l.map sF).length = l.length := List.length_map _
  repeat (first | refine awp_seq ?_ | refine thenA_normal ?_ | refine a_region ?_ | refine r_done ?_ | (refine r_id ?_; first | refine r_ev tab_ok rfl rfl rfl rfl (by first | exact trivial | exact ⟨by omega, by omega⟩ | omega | exact ⟨by omega, by omega, by omega, by omega⟩ | exact Nat.le_of_ble_eq_true rfl) rfl ?_))
  refine awp_cond_u rfl (fun h => ?_) (fun _ => ?_)
  · repeat (first | refine awp_seq ?_ | refine thenA_normal ?_ | refine a_region ?_ | refine awp_ret ?_ | refine thenA_ret ?_ | refine r_done ?_ | (refine r_id ?_; first | refine r_ev tab_ok rfl rfl rfl rfl (by first | exact trivial | exact ⟨by omega, by omega⟩ | omega | exact ⟨by omega, by omega, by omega, by omega⟩ | exact Nat.le_of_ble_eq_true rfl) rfl ?_) | refine ret1 (by first | exact .inl rfl | exact .inr rfl) rfl rfl rfl ?_)
    have : l = [] := by simpa using h
    subst this
    exact Sub.nil 1
  · repeat (first | refine awp_seq ?_ | refine thenA_normal ?_ | refine a_region ?_ | refine awp_ret ?_ | refine awp_skip ?_ | refine r_done ?_ | (refine r_id ?_; first | refine r_ev tab_ok rfl rfl rfl rfl (by first | exact trivial | exact ⟨by omega, by omega⟩ | omega | exact ⟨by omega, by omega, by omega, by omega⟩ | exact Nat.le_of_ble_eq_true rfl) rfl ?_ | refine r_built0 tab_ok rfl rfl rfl rfl rfl rfl rfl ?_ | refine r_append tab_ok rfl rfl rfl rfl rfl rfl rfl rfl rfl (by first | omega | (simp; omega)) rfl ?_) | refine ret1_row (by first | exact .inl rfl | exact .inr rfl) rfl rfl rfl ?_)
    exact Sub.refl _
def takF (a b : Sty) (nm : ByteArray) : Sty :=
  if nm = colS then { a with col := b.col } else
  if nm = conS then { a with cont := b.cont, normal := b.normal, nothing := b.nothing } else
  if nm = incS then { a with add := b.add } else
  if nm = rstS then { a with reset := b.reset } else
  if nm = setS then { a with set := b.set } else
  if nm = dspS then { a with disp := b.disp } else
  if nm = lstS then { a with lty := b.lty } else
  if nm = quoS then { a with quotes := b.quotes, auto := b.auto } else a
theorem take_all (a b : Sty) : namL.foldl (fun s n => takF s b n) a = b := by cases a; cases b; rfl
theorem take_back (a b : Sty) : takF (takF a b dspS) a dspS = a := by cases a; cases b; rfl
theorem takL {a b : Sty} (ha : styL a) (hb : styL b) (nm : ByteArray) : styL (takF a b nm) := by
  obtain ⟨a1, a2, a3, a4, a5⟩ := ha
  obtain ⟨b1, b2, b3, b4, b5⟩ := hb
  unfold takF
  split
  · exact ⟨a1, a2, a3, a4, a5⟩
  split
  · exact ⟨b1, a2, a3, a4, a5⟩
  split
  · exact ⟨a1, a2, a3, b4, a5⟩
  split
  · exact ⟨a1, a2, b3, a4, a5⟩
  split
  · exact ⟨a1, a2, a3, a4, b5⟩
  split
  · exact ⟨a1, a2, a3, a4, a5⟩
  split
  · exact ⟨a1, a2, a3, a4, a5⟩
  split
  · exact ⟨a1, b2, a3, a4, a5⟩
  · exact ⟨a1, a2, a3, a4, a5⟩
set_option maxHeartbeats 4000000 in
theorem copyS_ok (s : Sty) (h : styL s) : PCalls Tryd.prog 33 [stA s] (stA s) := by
  refine p_start Tryd.func33 Tryd.ntmps33 rfl rfl rfl fun S w => ?_
  obtain ⟨h1, h2, h3, h4, h5⟩ := h
  repeat (first | refine awp_seq ?_ | refine a_region ?_ | refine r_done ?_ | (refine r_id ?_; first | refine r_wr tab_ok rfl rfl rfl rfl rfl ?_))
  refine a_draw mixed_ok [0,1,1,0,1,1,0,2,0,2] (by kernel_rfl) ?_
  repeat (first | (refine r_id ?_; first | refine r_ev tab_ok rfl rfl rfl rfl (by first | exact trivial | exact ⟨by omega, by omega⟩ | omega | exact ⟨by omega, by omega, by omega, by omega⟩ | exact Nat.le_of_ble_eq_true rfl) rfl ?_ | refine r_ld tab_ok rfl rfl rfl rfl rfl ?_))
  refine r_call (cloneIt_ok s.cont h1) call56 rfl rfl ⟨Sub.refl _, trivial⟩ rfl rfl rfl rfl ?_
  repeat (first | (refine r_id ?_; first | refine r_ev tab_ok rfl rfl rfl rfl (by first | exact trivial | exact ⟨by omega, by omega⟩ | omega | exact ⟨by omega, by omega, by omega, by omega⟩ | exact Nat.le_of_ble_eq_true rfl) rfl ?_ | refine r_ld tab_ok rfl rfl rfl rfl rfl ?_))
  refine r_call (cloneS_ok s.quotes h2) call57 rfl rfl ⟨Sub.refl _, trivial⟩ rfl rfl rfl rfl ?_
  repeat (first | refine awp_seq ?_ | refine r_done' ?_ | (refine r_id ?_; first | refine r_ev tab_ok rfl rfl rfl rfl (by first | exact trivial | exact ⟨by omega, by omega⟩ | omega | exact ⟨by omega, by omega, by omega, by omega⟩ | exact Nat.le_of_ble_eq_true rfl) rfl ?_ | refine r_st tab_ok rfl rfl rfl rfl ?_))
  refine a_draw mixed_ok [0,1,1,0,1,1,0,1,1,0,2,0,2,0,2] (by kernel_rfl) ?_
  repeat (first | (refine r_id ?_; first | refine r_ev tab_ok rfl rfl rfl rfl (by first | exact trivial | exact ⟨by omega, by omega⟩ | omega | exact ⟨by omega, by omega, by omega, by omega⟩ | exact Nat.le_of_ble_eq_true rfl) rfl ?_ | refine r_ld tab_ok rfl rfl rfl rfl rfl ?_))
  refine r_call (clonePr_ok s.reset h3) call58 rfl rfl ⟨Sub.refl _, trivial⟩ rfl rfl rfl rfl ?_
  repeat (first | (refine r_id ?_; first | refine r_ev tab_ok rfl rfl rfl rfl (by first | exact trivial | exact ⟨by omega, by omega⟩ | omega | exact ⟨by omega, by omega, by omega, by omega⟩ | exact Nat.le_of_ble_eq_true rfl) rfl ?_ | refine r_ld tab_ok rfl rfl rfl rfl rfl ?_))
  refine r_call (clonePr_ok s.add h4) call58 rfl rfl ⟨Sub.refl _, trivial⟩ rfl rfl rfl rfl ?_
  repeat (first | (refine r_id ?_; first | refine r_ev tab_ok rfl rfl rfl rfl (by first | exact trivial | exact ⟨by omega, by omega⟩ | omega | exact ⟨by omega, by omega, by omega, by omega⟩ | exact Nat.le_of_ble_eq_true rfl) rfl ?_ | refine r_ld tab_ok rfl rfl rfl rfl rfl ?_))
  refine r_call (clonePr_ok s.set h5) call58 rfl rfl ⟨Sub.refl _, trivial⟩ rfl rfl rfl rfl ?_
  repeat (first | refine awp_seq ?_ | refine thenA_normal ?_ | refine a_region ?_ | refine awp_ret ?_ | refine r_done ?_ | refine r_done' ?_ | (refine r_id ?_; first | refine r_ev tab_ok rfl rfl rfl rfl (by first | exact trivial | exact ⟨by omega, by omega⟩ | omega | exact ⟨by omega, by omega, by omega, by omega⟩ | exact Nat.le_of_ble_eq_true rfl) rfl ?_ | refine r_ld tab_ok rfl rfl rfl rfl rfl ?_ | refine r_st tab_ok rfl rfl rfl rfl ?_))
  all_goals exact ret1c tab_ok (by first | exact .inl rfl | exact .inr rfl) rfl rfl rfl rfl rfl rfl (Sub.refl _)
set_option maxHeartbeats 8000000 in
theorem ptake_ok (a b : Sty) (ha : styL a) (hb : styL b) (nm : ByteArray) : PCalls Tryd.prog 18 [stA a, stA b, .val (.string nm)] (stA (takF a b nm)) := by
  refine p_start Tryd.func18 Tryd.ntmps18 rfl rfl rfl fun S w => ?_
  repeat (first | refine awp_seq ?_ | refine a_region ?_ | refine r_done ?_ | (refine r_id ?_; first | refine r_wr tab_ok rfl rfl rfl rfl rfl ?_))
  refine a_draw mixed_ok [1,1,1,1,2,2] (by kernel_rfl) ?_
  repeat (first | (refine r_id ?_; first | refine r_ld tab_ok rfl rfl rfl rfl rfl ?_))
  refine r_call (copyS_ok a ha) call33 rfl rfl ⟨Sub.refl _, trivial⟩ rfl rfl rfl rfl ?_
  repeat (first | (refine r_id ?_; first | refine r_ld tab_ok rfl rfl rfl rfl rfl ?_))
  refine r_call (copyS_ok b hb) call33 rfl rfl ⟨Sub.refl _, trivial⟩ rfl rfl rfl rfl ?_
  repeat (first | refine awp_seq ?_ | refine thenA_normal ?_ | refine awp_block ?_ | refine a_region ?_ | refine r_done ?_ | refine r_done' ?_ | (refine r_id ?_; first | refine r_ev tab_ok rfl rfl rfl rfl (by first | exact trivial | exact ⟨by omega, by omega⟩ | omega | exact ⟨by omega, by omega, by omega, by omega⟩ | exact Nat.le_of_ble_eq_true rfl) rfl ?_ | refine r_st tab_ok rfl rfl rfl rfl ?_))
  refine awp_cond_p rfl (fun (h0 : nm = colS) => ?_) (fun (h0 : ¬ nm = colS) => ?_)
  · rw [(show takF a b nm = { a with col := b.col } from if_pos h0)]
    repeat (first | refine awp_seq ?_ | refine thenA_normal ?_ | refine a_region ?_ | refine awp_ret ?_ | refine r_done ?_ | (refine r_id ?_; first | refine r_ev tab_ok rfl rfl rfl rfl (by first | exact trivial | exact ⟨by omega, by omega⟩ | omega | exact ⟨by omega, by omega, by omega, by omega⟩ | exact Nat.le_of_ble_eq_true rfl) rfl ?_ | refine r_ld tab_ok rfl rfl rfl rfl rfl ?_ | refine r_st tab_ok rfl rfl rfl rfl ?_))
    all_goals exact ret1c tab_ok (by first | exact .inl rfl | exact .inr rfl) rfl rfl rfl rfl rfl rfl (Sub.refl _)
  repeat (first | refine awp_seq ?_ | refine thenA_normal ?_ | refine a_region ?_ | refine r_done ?_ | (refine r_id ?_; first | refine r_ev tab_ok rfl rfl rfl rfl (by first | exact trivial | exact ⟨by omega, by omega⟩ | omega | exact ⟨by omega, by omega, by omega, by omega⟩ | exact Nat.le_of_ble_eq_true rfl) rfl ?_))
  refine awp_cond_p rfl (fun (h1 : nm = conS) => ?_) (fun (h1 : ¬ nm = conS) => ?_)
  · rw [(show takF a b nm = { a with cont := b.cont, normal := b.normal, nothing := b.nothing } from (if_neg h0).trans (if_pos h1))]
    refine a_draw mixed_ok [0,13,0,13,0,13,0,14,0,14,0,14] (by kernel_rfl) ?_
    repeat (first | (refine r_id ?_; first | refine r_ev tab_ok rfl rfl rfl rfl (by first | exact trivial | exact ⟨by omega, by omega⟩ | omega | exact ⟨by omega, by omega, by omega, by omega⟩ | exact Nat.le_of_ble_eq_true rfl) rfl ?_))
    refine r_ldm 2 tab_ok rfl rfl rfl rfl rfl (by show Nat.testBit 2 1 = true; rfl) rfl rfl rfl rfl rfl ?_
    repeat (first | (refine r_id ?_; first | refine r_ev tab_ok rfl rfl rfl rfl (by first | exact trivial | exact ⟨by omega, by omega⟩ | omega | exact ⟨by omega, by omega, by omega, by omega⟩ | exact Nat.le_of_ble_eq_true rfl) rfl ?_))
    refine r_ldm 2 tab_ok rfl rfl rfl rfl rfl (by show Nat.testBit 2 1 = true; rfl) rfl rfl rfl rfl rfl ?_
    repeat (first | (refine r_id ?_; first | refine r_ev tab_ok rfl rfl rfl rfl (by first | exact trivial | exact ⟨by omega, by omega⟩ | omega | exact ⟨by omega, by omega, by omega, by omega⟩ | exact Nat.le_of_ble_eq_true rfl) rfl ?_))
    refine r_ldm 2 tab_ok rfl rfl rfl rfl rfl (by show Nat.testBit 2 1 = true; rfl) rfl rfl rfl rfl rfl ?_
    repeat (first | (refine r_id ?_; first | refine r_ev tab_ok rfl rfl rfl rfl (by first | exact trivial | exact ⟨by omega, by omega⟩ | omega | exact ⟨by omega, by omega, by omega, by omega⟩ | exact Nat.le_of_ble_eq_true rfl) rfl ?_))
    refine r_stm 2 tab_ok rfl rfl (agree_set (by show Nat.testBit 2 0 = false; rfl)) rfl rfl ?_
    repeat (first | (refine r_id ?_; first | refine r_ev tab_ok rfl rfl rfl rfl (by first | exact trivial | exact ⟨by omega, by omega⟩ | omega | exact ⟨by omega, by omega, by omega, by omega⟩ | exact Nat.le_of_ble_eq_true rfl) rfl ?_))
    refine r_stm 2 tab_ok rfl rfl (agree_set (by show Nat.testBit 2 0 = false; rfl)) rfl rfl ?_
    repeat (first | (refine r_id ?_; first | refine r_ev tab_ok rfl rfl rfl rfl (by first | exact trivial | exact ⟨by omega, by omega⟩ | omega | exact ⟨by omega, by omega, by omega, by omega⟩ | exact Nat.le_of_ble_eq_true rfl) rfl ?_))
    refine r_stm 2 tab_ok rfl rfl (agree_set (by show Nat.testBit 2 0 = false; rfl)) rfl rfl ?_
    repeat (first | refine awp_seq ?_ | refine thenA_normal ?_ | refine a_region ?_ | refine awp_ret ?_ | refine r_done ?_ | refine r_done' ?_ | (refine r_id ?_; first | refine r_ld tab_ok rfl rfl rfl rfl rfl ?_ | refine r_st tab_ok rfl rfl rfl rfl ?_))
    all_goals exact ret1c tab_ok (by first | exact .inl rfl | exact .inr rfl) rfl rfl rfl rfl rfl rfl (Sub.refl _)
  repeat (first | refine awp_seq ?_ | refine thenA_normal ?_ | refine a_region ?_ | refine r_done ?_ | (refine r_id ?_; first | refine r_ev tab_ok rfl rfl rfl rfl (by first | exact trivial | exact ⟨by omega, by omega⟩ | omega | exact ⟨by omega, by omega, by omega, by omega⟩ | exact Nat.le_of_ble_eq_true rfl) rfl ?_))
  refine awp_cond_p rfl (fun (h2 : nm = incS) => ?_) (fun (h2 : ¬ nm = incS) => ?_)
  · rw [(show takF a b nm = { a with add := b.add } from (if_neg h0).trans ((if_neg h1).trans (if_pos h2)))]
    repeat (first | refine awp_seq ?_ | refine thenA_normal ?_ | refine a_region ?_ | refine awp_ret ?_ | refine r_done ?_ | (refine r_id ?_; first | refine r_ev tab_ok rfl rfl rfl rfl (by first | exact trivial | exact ⟨by omega, by omega⟩ | omega | exact ⟨by omega, by omega, by omega, by omega⟩ | exact Nat.le_of_ble_eq_true rfl) rfl ?_ | refine r_ld tab_ok rfl rfl rfl rfl rfl ?_ | refine r_st tab_ok rfl rfl rfl rfl ?_))
    all_goals exact ret1c tab_ok (by first | exact .inl rfl | exact .inr rfl) rfl rfl rfl rfl rfl rfl (Sub.refl _)
  repeat (first | refine awp_seq ?_ | refine thenA_normal ?_ | refine a_region ?_ | refine r_done ?_ | (refine r_id ?_; first | refine r_ev tab_ok rfl rfl rfl rfl (by first | exact trivial | exact ⟨by omega, by omega⟩ | omega | exact ⟨by omega, by omega, by omega, by omega⟩ | exact Nat.le_of_ble_eq_true rfl) rfl ?_))
  refine awp_cond_p rfl (fun (h3 : nm = rstS) => ?_) (fun (h3 : ¬ nm = rstS) => ?_)
  · rw [(show takF a b nm = { a with reset := b.reset } from (if_neg h0).trans ((if_neg h1).trans ((if_neg h2).trans (if_pos h3))))]
    repeat (first | refine awp_seq ?_ | refine thenA_normal ?_ | refine a_region ?_ | refine awp_ret ?_ | refine r_done ?_ | (refine r_id ?_; first | refine r_ev tab_ok rfl rfl rfl rfl (by first | exact trivial | exact ⟨by omega, by omega⟩ | omega | exact ⟨by omega, by omega, by omega, by omega⟩ | exact Nat.le_of_ble_eq_true rfl) rfl ?_ | refine r_ld tab_ok rfl rfl rfl rfl rfl ?_ | refine r_st tab_ok rfl rfl rfl rfl ?_))
    all_goals exact ret1c tab_ok (by first | exact .inl rfl | exact .inr rfl) rfl rfl rfl rfl rfl rfl (Sub.refl _)
  repeat (first | refine awp_seq ?_ | refine thenA_normal ?_ | refine a_region ?_ | refine r_done ?_ | (refine r_id ?_; first | refine r_ev tab_ok rfl rfl rfl rfl (by first | exact trivial | exact ⟨by omega, by omega⟩ | omega | exact ⟨by omega, by omega, by omega, by omega⟩ | exact Nat.le_of_ble_eq_true rfl) rfl ?_))
  refine awp_cond_p rfl (fun (h4 : nm = setS) => ?_) (fun (h4 : ¬ nm = setS) => ?_)
  · rw [(show takF a b nm = { a with set := b.set } from (if_neg h0).trans ((if_neg h1).trans ((if_neg h2).trans ((if_neg h3).trans (if_pos h4)))))]
    repeat (first | refine awp_seq ?_ | refine thenA_normal ?_ | refine a_region ?_ | refine awp_ret ?_ | refine r_done ?_ | (refine r_id ?_; first | refine r_ev tab_ok rfl rfl rfl rfl (by first | exact trivial | exact ⟨by omega, by omega⟩ | omega | exact ⟨by omega, by omega, by omega, by omega⟩ | exact Nat.le_of_ble_eq_true rfl) rfl ?_ | refine r_ld tab_ok rfl rfl rfl rfl rfl ?_ | refine r_st tab_ok rfl rfl rfl rfl ?_))
    all_goals exact ret1c tab_ok (by first | exact .inl rfl | exact .inr rfl) rfl rfl rfl rfl rfl rfl (Sub.refl _)
  repeat (first | refine awp_seq ?_ | refine thenA_normal ?_ | refine a_region ?_ | refine r_done ?_ | (refine r_id ?_; first | refine r_ev tab_ok rfl rfl rfl rfl (by first | exact trivial | exact ⟨by omega, by omega⟩ | omega | exact ⟨by omega, by omega, by omega, by omega⟩ | exact Nat.le_of_ble_eq_true rfl) rfl ?_))
  refine awp_cond_p rfl (fun (h5 : nm = dspS) => ?_) (fun (h5 : ¬ nm = dspS) => ?_)
  · rw [(show takF a b nm = { a with disp := b.disp } from (if_neg h0).trans ((if_neg h1).trans ((if_neg h2).trans ((if_neg h3).trans ((if_neg h4).trans (if_pos h5))))))]
    repeat (first | refine awp_seq ?_ | refine thenA_normal ?_ | refine a_region ?_ | refine awp_ret ?_ | refine r_done ?_ | (refine r_id ?_; first | refine r_ev tab_ok rfl rfl rfl rfl (by first | exact trivial | exact ⟨by omega, by omega⟩ | omega | exact ⟨by omega, by omega, by omega, by omega⟩ | exact Nat.le_of_ble_eq_true rfl) rfl ?_ | refine r_ld tab_ok rfl rfl rfl rfl rfl ?_ | refine r_st tab_ok rfl rfl rfl rfl ?_))
    all_goals exact ret1c tab_ok (by first | exact .inl rfl | exact .inr rfl) rfl rfl rfl rfl rfl rfl (Sub.refl _)
  repeat (first | refine awp_seq ?_ | refine thenA_normal ?_ | refine a_region ?_ | refine r_done ?_ | (refine r_id ?_; first | refine r_ev tab_ok rfl rfl rfl rfl (by first | exact trivial | exact ⟨by omega, by omega⟩ | omega | exact ⟨by omega, by omega, by omega, by omega⟩ | exact Nat.le_of_ble_eq_true rfl) rfl ?_))
  refine awp_cond_p rfl (fun (h6 : nm = lstS) => ?_) (fun (h6 : ¬ nm = lstS) => ?_)
  · rw [(show takF a b nm = { a with lty := b.lty } from (if_neg h0).trans ((if_neg h1).trans ((if_neg h2).trans ((if_neg h3).trans ((if_neg h4).trans ((if_neg h5).trans (if_pos h6)))))))]
    repeat (first | refine awp_seq ?_ | refine thenA_normal ?_ | refine a_region ?_ | refine awp_ret ?_ | refine r_done ?_ | (refine r_id ?_; first | refine r_ev tab_ok rfl rfl rfl rfl (by first | exact trivial | exact ⟨by omega, by omega⟩ | omega | exact ⟨by omega, by omega, by omega, by omega⟩ | exact Nat.le_of_ble_eq_true rfl) rfl ?_ | refine r_ld tab_ok rfl rfl rfl rfl rfl ?_ | refine r_st tab_ok rfl rfl rfl rfl ?_))
    all_goals exact ret1c tab_ok (by first | exact .inl rfl | exact .inr rfl) rfl rfl rfl rfl rfl rfl (Sub.refl _)
  repeat (first | refine awp_seq ?_ | refine thenA_normal ?_ | refine a_region ?_ | refine r_done ?_ | (refine r_id ?_; first | refine r_ev tab_ok rfl rfl rfl rfl (by first | exact trivial | exact ⟨by omega, by omega⟩ | omega | exact ⟨by omega, by omega, by omega, by omega⟩ | exact Nat.le_of_ble_eq_true rfl) rfl ?_))
  refine awp_cond_p rfl (fun (h7 : nm = quoS) => ?_) (fun (h7 : ¬ nm = quoS) => ?_)
  · rw [(show takF a b nm = { a with quotes := b.quotes, auto := b.auto } from (if_neg h0).trans ((if_neg h1).trans ((if_neg h2).trans ((if_neg h3).trans ((if_neg h4).trans ((if_neg h5).trans ((if_neg h6).trans (if_pos h7))))))))]
    refine a_draw mixed_ok [0,13,0,13,0,14,0,14] (by kernel_rfl) ?_
    repeat (first | (refine r_id ?_; first | refine r_ev tab_ok rfl rfl rfl rfl (by first | exact trivial | exact ⟨by omega, by omega⟩ | omega | exact ⟨by omega, by omega, by omega, by omega⟩ | exact Nat.le_of_ble_eq_true rfl) rfl ?_))
    refine r_ldm 2 tab_ok rfl rfl rfl rfl rfl (by show Nat.testBit 2 1 = true; rfl) rfl rfl rfl rfl rfl ?_
    repeat (first | (refine r_id ?_; first | refine r_ev tab_ok rfl rfl rfl rfl (by first | exact trivial | exact ⟨by omega, by omega⟩ | omega | exact ⟨by omega, by omega, by omega, by omega⟩ | exact Nat.le_of_ble_eq_true rfl) rfl ?_))
    refine r_ldm 2 tab_ok rfl rfl rfl rfl rfl (by show Nat.testBit 2 1 = true; rfl) rfl rfl rfl rfl rfl ?_
    repeat (first | (refine r_id ?_; first | refine r_ev tab_ok rfl rfl rfl rfl (by first | exact trivial | exact ⟨by omega, by omega⟩ | omega | exact ⟨by omega, by omega, by omega, by omega⟩ | exact Nat.le_of_ble_eq_true rfl) rfl ?_))
    refine r_stm 2 tab_ok rfl rfl (agree_set (by show Nat.testBit 2 0 = false; rfl)) rfl rfl ?_
    repeat (first | (refine r_id ?_; first | refine r_ev tab_ok rfl rfl rfl rfl (by first | exact trivial | exact ⟨by omega, by omega⟩ | omega | exact ⟨by omega, by omega, by omega, by omega⟩ | exact Nat.le_of_ble_eq_true rfl) rfl ?_))
    refine r_stm 2 tab_ok rfl rfl (agree_set (by show Nat.testBit 2 0 = false; rfl)) rfl rfl ?_
    repeat (first | refine awp_seq ?_ | refine thenA_normal ?_ | refine a_region ?_ | refine awp_ret ?_ | refine r_done ?_ | refine r_done' ?_ | (refine r_id ?_; first | refine r_ld tab_ok rfl rfl rfl rfl rfl ?_ | refine r_st tab_ok rfl rfl rfl rfl ?_))
    all_goals exact ret1c tab_ok (by first | exact .inl rfl | exact .inr rfl) rfl rfl rfl rfl rfl rfl (Sub.refl _)
  repeat (first | refine awp_seq ?_ | refine thenA_normal ?_ | refine a_region ?_ | refine awp_ret ?_ | refine awp_skip ?_ | refine r_done ?_ | (refine r_id ?_; first | refine r_ld tab_ok rfl rfl rfl rfl rfl ?_ | refine r_st tab_ok rfl rfl rfl rfl ?_))
  rw [(show takF a b nm = a from (if_neg h0).trans ((if_neg h1).trans ((if_neg h2).trans ((if_neg h3).trans ((if_neg h4).trans ((if_neg h5).trans ((if_neg h6).trans (if_neg h7))))))))]
  all_goals exact ret1c tab_ok (by first | exact .inl rfl | exact .inr rfl) rfl rfl rfl rfl rfl rfl (Sub.refl _)
set_option maxHeartbeats 8000000 in
theorem rtake_ok (a b : Sty) (ha : styL a) (hb : styL b) (nm : ByteArray) : PCalls Tryd.prog 19 [stA a, stA b, .val (.string nm)] (stA (takF a b nm)) := by
  refine p_start Tryd.func19 Tryd.ntmps19 rfl rfl rfl fun S w => ?_
  repeat (first | refine awp_seq ?_ | refine thenA_normal ?_ | refine awp_block ?_ | refine a_region ?_ | refine r_done ?_ | (refine r_id ?_; first | refine r_ev tab_ok rfl rfl rfl rfl (by first | exact trivial | exact ⟨by omega, by omega⟩ | omega | exact ⟨by omega, by omega, by omega, by omega⟩ | exact Nat.le_of_ble_eq_true rfl) rfl ?_ | refine r_wr tab_ok rfl rfl rfl rfl rfl ?_))
  refine awp_cond_p rfl (fun (h0 : nm = colS) => ?_) (fun (h0 : ¬ nm = colS) => ?_)
  · rw [(show takF a b nm = { a with col := b.col } from if_pos h0)]
    repeat (first | refine awp_seq ?_ | refine thenA_normal ?_ | refine a_region ?_ | refine awp_ret ?_ | refine r_done ?_ | (refine r_id ?_; first | refine r_ev tab_ok rfl rfl rfl rfl (by first | exact trivial | exact ⟨by omega, by omega⟩ | omega | exact ⟨by omega, by omega, by omega, by omega⟩ | exact Nat.le_of_ble_eq_true rfl) rfl ?_ | refine r_ld tab_ok rfl rfl rfl rfl rfl ?_ | refine r_st tab_ok rfl rfl rfl rfl ?_))
    all_goals exact ret1c tab_ok (by first | exact .inl rfl | exact .inr rfl) rfl rfl rfl rfl rfl rfl (Sub.refl _)
  repeat (first | refine awp_seq ?_ | refine thenA_normal ?_ | refine a_region ?_ | refine r_done ?_ | (refine r_id ?_; first | refine r_ev tab_ok rfl rfl rfl rfl (by first | exact trivial | exact ⟨by omega, by omega⟩ | omega | exact ⟨by omega, by omega, by omega, by omega⟩ | exact Nat.le_of_ble_eq_true rfl) rfl ?_))
  refine awp_cond_p rfl (fun (h1 : nm = conS) => ?_) (fun (h1 : ¬ nm = conS) => ?_)
  · rw [(show takF a b nm = { a with cont := b.cont, normal := b.normal, nothing := b.nothing } from (if_neg h0).trans (if_pos h1))]
    refine a_draw mixed_ok [0,13,0,13,0,13,0,14,0,14,0,14] (by kernel_rfl) ?_
    repeat (first | (refine r_id ?_; first | refine r_ev tab_ok rfl rfl rfl rfl (by first | exact trivial | exact ⟨by omega, by omega⟩ | omega | exact ⟨by omega, by omega, by omega, by omega⟩ | exact Nat.le_of_ble_eq_true rfl) rfl ?_))
    refine r_ldm 2 tab_ok rfl rfl rfl rfl rfl (by show Nat.testBit 2 1 = true; rfl) rfl rfl rfl rfl rfl ?_
    repeat (first | (refine r_id ?_; first | refine r_ev tab_ok rfl rfl rfl rfl (by first | exact trivial | exact ⟨by omega, by omega⟩ | omega | exact ⟨by omega, by omega, by omega, by omega⟩ | exact Nat.le_of_ble_eq_true rfl) rfl ?_))
    refine r_ldm 2 tab_ok rfl rfl rfl rfl rfl (by show Nat.testBit 2 1 = true; rfl) rfl rfl rfl rfl rfl ?_
    repeat (first | (refine r_id ?_; first | refine r_ev tab_ok rfl rfl rfl rfl (by first | exact trivial | exact ⟨by omega, by omega⟩ | omega | exact ⟨by omega, by omega, by omega, by omega⟩ | exact Nat.le_of_ble_eq_true rfl) rfl ?_))
    refine r_ldm 2 tab_ok rfl rfl rfl rfl rfl (by show Nat.testBit 2 1 = true; rfl) rfl rfl rfl rfl rfl ?_
    repeat (first | (refine r_id ?_; first | refine r_ev tab_ok rfl rfl rfl rfl (by first | exact trivial | exact ⟨by omega, by omega⟩ | omega | exact ⟨by omega, by omega, by omega, by omega⟩ | exact Nat.le_of_ble_eq_true rfl) rfl ?_))
    refine r_stm 2 tab_ok rfl rfl (agree_set (by show Nat.testBit 2 0 = false; rfl)) rfl rfl ?_
    repeat (first | (refine r_id ?_; first | refine r_ev tab_ok rfl rfl rfl rfl (by first | exact trivial | exact ⟨by omega, by omega⟩ | omega | exact ⟨by omega, by omega, by omega, by omega⟩ | exact Nat.le_of_ble_eq_true rfl) rfl ?_))
    refine r_stm 2 tab_ok rfl rfl (agree_set (by show Nat.testBit 2 0 = false; rfl)) rfl rfl ?_
    repeat (first | (refine r_id ?_; first | refine r_ev tab_ok rfl rfl rfl rfl (by first | exact trivial | exact ⟨by omega, by omega⟩ | omega | exact ⟨by omega, by omega, by omega, by omega⟩ | exact Nat.le_of_ble_eq_true rfl) rfl ?_))
    refine r_stm 2 tab_ok rfl rfl (agree_set (by show Nat.testBit 2 0 = false; rfl)) rfl rfl ?_
    repeat (first | refine awp_seq ?_ | refine thenA_normal ?_ | refine a_region ?_ | refine awp_ret ?_ | refine r_done ?_ | refine r_done' ?_ | (refine r_id ?_; first | refine r_ld tab_ok rfl rfl rfl rfl rfl ?_ | refine r_st tab_ok rfl rfl rfl rfl ?_))
    all_goals exact ret1c tab_ok (by first | exact .inl rfl | exact .inr rfl) rfl rfl rfl rfl rfl rfl (Sub.refl _)
  repeat (first | refine awp_seq ?_ | refine thenA_normal ?_ | refine a_region ?_ | refine r_done ?_ | (refine r_id ?_; first | refine r_ev tab_ok rfl rfl rfl rfl (by first | exact trivial | exact ⟨by omega, by omega⟩ | omega | exact ⟨by omega, by omega, by omega, by omega⟩ | exact Nat.le_of_ble_eq_true rfl) rfl ?_))
  refine awp_cond_p rfl (fun (h2 : nm = incS) => ?_) (fun (h2 : ¬ nm = incS) => ?_)
  · rw [(show takF a b nm = { a with add := b.add } from (if_neg h0).trans ((if_neg h1).trans (if_pos h2)))]
    repeat (first | refine awp_seq ?_ | refine thenA_normal ?_ | refine a_region ?_ | refine awp_ret ?_ | refine r_done ?_ | (refine r_id ?_; first | refine r_ev tab_ok rfl rfl rfl rfl (by first | exact trivial | exact ⟨by omega, by omega⟩ | omega | exact ⟨by omega, by omega, by omega, by omega⟩ | exact Nat.le_of_ble_eq_true rfl) rfl ?_ | refine r_ld tab_ok rfl rfl rfl rfl rfl ?_ | refine r_st tab_ok rfl rfl rfl rfl ?_))
    all_goals exact ret1c tab_ok (by first | exact .inl rfl | exact .inr rfl) rfl rfl rfl rfl rfl rfl (Sub.refl _)
  repeat (first | refine awp_seq ?_ | refine thenA_normal ?_ | refine a_region ?_ | refine r_done ?_ | (refine r_id ?_; first | refine r_ev tab_ok rfl rfl rfl rfl (by first | exact trivial | exact ⟨by omega, by omega⟩ | omega | exact ⟨by omega, by omega, by omega, by omega⟩ | exact Nat.le_of_ble_eq_true rfl) rfl ?_))
  refine awp_cond_p rfl (fun (h3 : nm = rstS) => ?_) (fun (h3 : ¬ nm = rstS) => ?_)
  · rw [(show takF a b nm = { a with reset := b.reset } from (if_neg h0).trans ((if_neg h1).trans ((if_neg h2).trans (if_pos h3))))]
    repeat (first | refine awp_seq ?_ | refine thenA_normal ?_ | refine a_region ?_ | refine awp_ret ?_ | refine r_done ?_ | (refine r_id ?_; first | refine r_ev tab_ok rfl rfl rfl rfl (by first | exact trivial | exact ⟨by omega, by omega⟩ | omega | exact ⟨by omega, by omega, by omega, by omega⟩ | exact Nat.le_of_ble_eq_true rfl) rfl ?_ | refine r_ld tab_ok rfl rfl rfl rfl rfl ?_ | refine r_st tab_ok rfl rfl rfl rfl ?_))
    all_goals exact ret1c tab_ok (by first | exact .inl rfl | exact .inr rfl) rfl rfl rfl rfl rfl rfl (Sub.refl _)
  repeat (first | refine awp_seq ?_ | refine thenA_normal ?_ | refine a_region ?_ | refine r_done ?_ | (refine r_id ?_; first | refine r_ev tab_ok rfl rfl rfl rfl (by first | exact trivial | exact ⟨by omega, by omega⟩ | omega | exact ⟨by omega, by omega, by omega, by omega⟩ | exact Nat.le_of_ble_eq_true rfl) rfl ?_))
  refine awp_cond_p rfl (fun (h4 : nm = setS) => ?_) (fun (h4 : ¬ nm = setS) => ?_)
  · rw [(show takF a b nm = { a with set := b.set } from (if_neg h0).trans ((if_neg h1).trans ((if_neg h2).trans ((if_neg h3).trans (if_pos h4)))))]
    repeat (first | refine awp_seq ?_ | refine thenA_normal ?_ | refine a_region ?_ | refine awp_ret ?_ | refine r_done ?_ | (refine r_id ?_; first | refine r_ev tab_ok rfl rfl rfl rfl (by first | exact trivial | exact ⟨by omega, by omega⟩ | omega | exact ⟨by omega, by omega, by omega, by omega⟩ | exact Nat.le_of_ble_eq_true rfl) rfl ?_ | refine r_ld tab_ok rfl rfl rfl rfl rfl ?_ | refine r_st tab_ok rfl rfl rfl rfl ?_))
    all_goals exact ret1c tab_ok (by first | exact .inl rfl | exact .inr rfl) rfl rfl rfl rfl rfl rfl (Sub.refl _)
  repeat (first | refine awp_seq ?_ | refine thenA_normal ?_ | refine a_region ?_ | refine r_done ?_ | (refine r_id ?_; first | refine r_ev tab_ok rfl rfl rfl rfl (by first | exact trivial | exact ⟨by omega, by omega⟩ | omega | exact ⟨by omega, by omega, by omega, by omega⟩ | exact Nat.le_of_ble_eq_true rfl) rfl ?_))
  refine awp_cond_p rfl (fun (h5 : nm = dspS) => ?_) (fun (h5 : ¬ nm = dspS) => ?_)
  · rw [(show takF a b nm = { a with disp := b.disp } from (if_neg h0).trans ((if_neg h1).trans ((if_neg h2).trans ((if_neg h3).trans ((if_neg h4).trans (if_pos h5))))))]
    repeat (first | refine awp_seq ?_ | refine thenA_normal ?_ | refine a_region ?_ | refine awp_ret ?_ | refine r_done ?_ | (refine r_id ?_; first | refine r_ev tab_ok rfl rfl rfl rfl (by first | exact trivial | exact ⟨by omega, by omega⟩ | omega | exact ⟨by omega, by omega, by omega, by omega⟩ | exact Nat.le_of_ble_eq_true rfl) rfl ?_ | refine r_ld tab_ok rfl rfl rfl rfl rfl ?_ | refine r_st tab_ok rfl rfl rfl rfl ?_))
    all_goals exact ret1c tab_ok (by first | exact .inl rfl | exact .inr rfl) rfl rfl rfl rfl rfl rfl (Sub.refl _)
  repeat (first | refine awp_seq ?_ | refine thenA_normal ?_ | refine a_region ?_ | refine r_done ?_ | (refine r_id ?_; first | refine r_ev tab_ok rfl rfl rfl rfl (by first | exact trivial | exact ⟨by omega, by omega⟩ | omega | exact ⟨by omega, by omega, by omega, by omega⟩ | exact Nat.le_of_ble_eq_true rfl) rfl ?_))
  refine awp_cond_p rfl (fun (h6 : nm = lstS) => ?_) (fun (h6 : ¬ nm = lstS) => ?_)
  · rw [(show takF a b nm = { a with lty := b.lty } from (if_neg h0).trans ((if_neg h1).trans ((if_neg h2).trans ((if_neg h3).trans ((if_neg h4).trans ((if_neg h5).trans (if_pos h6)))))))]
    repeat (first | refine awp_seq ?_ | refine thenA_normal ?_ | refine a_region ?_ | refine awp_ret ?_ | refine r_done ?_ | (refine r_id ?_; first | refine r_ev tab_ok rfl rfl rfl rfl (by first | exact trivial | exact ⟨by omega, by omega⟩ | omega | exact ⟨by omega, by omega, by omega, by omega⟩ | exact Nat.le_of_ble_eq_true rfl) rfl ?_ | refine r_ld tab_ok rfl rfl rfl rfl rfl ?_ | refine r_st tab_ok rfl rfl rfl rfl ?_))
    all_goals exact ret1c tab_ok (by first | exact .inl rfl | exact .inr rfl) rfl rfl rfl rfl rfl rfl (Sub.refl _)
  repeat (first | refine awp_seq ?_ | refine thenA_normal ?_ | refine a_region ?_ | refine r_done ?_ | (refine r_id ?_; first | refine r_ev tab_ok rfl rfl rfl rfl (by first | exact trivial | exact ⟨by omega, by omega⟩ | omega | exact ⟨by omega, by omega, by omega, by omega⟩ | exact Nat.le_of_ble_eq_true rfl) rfl ?_))
  refine awp_cond_p rfl (fun (h7 : nm = quoS) => ?_) (fun (h7 : ¬ nm = quoS) => ?_)
  · rw [(show takF a b nm = { a with quotes := b.quotes, auto := b.auto } from (if_neg h0).trans ((if_neg h1).trans ((if_neg h2).trans ((if_neg h3).trans ((if_neg h4).trans ((if_neg h5).trans ((if_neg h6).trans (if_pos h7))))))))]
    refine a_draw mixed_ok [0,13,0,13,0,14,0,14] (by kernel_rfl) ?_
    repeat (first | (refine r_id ?_; first | refine r_ev tab_ok rfl rfl rfl rfl (by first | exact trivial | exact ⟨by omega, by omega⟩ | omega | exact ⟨by omega, by omega, by omega, by omega⟩ | exact Nat.le_of_ble_eq_true rfl) rfl ?_))
    refine r_ldm 2 tab_ok rfl rfl rfl rfl rfl (by show Nat.testBit 2 1 = true; rfl) rfl rfl rfl rfl rfl ?_
    repeat (first | (refine r_id ?_; first | refine r_ev tab_ok rfl rfl rfl rfl (by first | exact trivial | exact ⟨by omega, by omega⟩ | omega | exact ⟨by omega, by omega, by omega, by omega⟩ | exact Nat.le_of_ble_eq_true rfl) rfl ?_))
    refine r_ldm 2 tab_ok rfl rfl rfl rfl rfl (by show Nat.testBit 2 1 = true; rfl) rfl rfl rfl rfl rfl ?_
    repeat (first | (refine r_id ?_; first | refine r_ev tab_ok rfl rfl rfl rfl (by first | exact trivial | exact ⟨by omega, by omega⟩ | omega | exact ⟨by omega, by omega, by omega, by omega⟩ | exact Nat.le_of_ble_eq_true rfl) rfl ?_))
    refine r_stm 2 tab_ok rfl rfl (agree_set (by show Nat.testBit 2 0 = false; rfl)) rfl rfl ?_
    repeat (first | (refine r_id ?_; first | refine r_ev tab_ok rfl rfl rfl rfl (by first | exact trivial | exact ⟨by omega, by omega⟩ | omega | exact ⟨by omega, by omega, by omega, by omega⟩ | exact Nat.le_of_ble_eq_true rfl) rfl ?_))
    refine r_stm 2 tab_ok rfl rfl (agree_set (by show Nat.testBit 2 0 = false; rfl)) rfl rfl ?_
    repeat (first | refine awp_seq ?_ | refine thenA_normal ?_ | refine a_region ?_ | refine awp_ret ?_ | refine r_done ?_ | refine r_done' ?_ | (refine r_id ?_; first | refine r_ld tab_ok rfl rfl rfl rfl rfl ?_ | refine r_st tab_ok rfl rfl rfl rfl ?_))
    all_goals exact ret1c tab_ok (by first | exact .inl rfl | exact .inr rfl) rfl rfl rfl rfl rfl rfl (Sub.refl _)
  repeat (first | refine awp_seq ?_ | refine thenA_normal ?_ | refine a_region ?_ | refine awp_ret ?_ | refine awp_skip ?_ | refine r_done ?_ | (refine r_id ?_; first | refine r_ld tab_ok rfl rfl rfl rfl rfl ?_ | refine r_st tab_ok rfl rfl rfl rfl ?_))
  rw [(show takF a b nm = a from (if_neg h0).trans ((if_neg h1).trans ((if_neg h2).trans ((if_neg h3).trans ((if_neg h4).trans ((if_neg h5).trans ((if_neg h6).trans (if_neg h7))))))))]
  all_goals exact ret1c tab_ok (by first | exact .inl rfl | exact .inr rfl) rfl rfl rfl rfl rfl rfl (Sub.refl _)
end Go.Proofs.YtllmagfmbglefaaDoor
