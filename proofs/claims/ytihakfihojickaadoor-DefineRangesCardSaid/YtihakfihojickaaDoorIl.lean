/- DefineRanges, walked. -/
import Derived.Test.YtihakfihojickaaDoorIk
import Derived.Test.YtihakfihojickaaDoorIa
namespace Go.Proofs.YtihakfihojickaaDoor
open Go Go.RowKit
set_option maxRecDepth 20000

theorem r_neqRg {o : Oper} {M : List AB} {ops : Array Oper} {N : Nat} {K : AS → Prop} {r : List Oper} {fo fo' : Option (List Nat)} {F : List (Nat × AV)} {dt : Tmp} {u : TypeId} {x y : Operand} (c : Int × Int) (hg : o.guard = none) (ho : o.op = .binOp .neq 33 x y u) (hx : aval (look F) x = .agg [.val (.int .i64 c.1), .val (.int .i64 c.2)]) (hy : aval (look F) y = .agg [.val (.int .i64 c.1), .val (.int .i64 c.2)])
    (hdd : o.dst = some dt) (hd : dstB o.dst N = true) (hp : popF fo 1 = some fo')
    (k : RunX Tryd.prog ops N K r fo' M ((dt, .val (.bool false)) :: F)) : RunX Tryd.prog ops N K (o :: r) fo M F := by
  have hA : AStep Tryd.prog o M (aval (look F)) M (.val (.bool false)) := .value fun S B β a w _ hs => by
    have h1 := hs x (by simp [ho, Op.operands])
    have h2 := hs y (by simp [ho, Op.operands])
    rw [hx] at h1; rw [hy] at h2
    have h1 := rgV_of h1
    have h2 := rgV_of h2
    refine ⟨_, ?_, rfl⟩
    have hg : (eqGuard .neq 33 x y (rgV c) (rgV c)).run Tryd.prog w = .ok () w := run_eqGuard_agg w _ _ _ _ _ _ (by kernel_rfl)
    have he : (binOp .neq 33 (rgV c) (rgV c)).run Tryd.prog w = .ok (.bool false) w := by
      have := run_neq_struct (P := Tryd.prog) w 33 #[.int .i64 c.1, .int .i64 c.2] #[.int .i64 c.1, .int .i64 c.2]
      rw [← rgV, run_eqRg] at this
      exact this
    simp only [execOp, ho, h1, h2, Sem.run_bind, hg, he, Result.andThen_ok]
    rfl
  exact RunX.mk (fun _ k => Run.quiet hd (StepG.plain hg hA) (by rw [put_eq hdd]; exact k)) hp k
def ciD' (n : Int) : D := .val (.int .i64 n)
def clI (x : Int) : Int := max (min x 2147483647) (-2147483648)
theorem clI_in (x : Int) : -2147483648 ≤ clI x ∧ clI x ≤ 2147483647 := by unfold clI; omega
/-- The pair of two numbers, said in one of four ways. -/
def mkP (a b k : Int) : Bp := if k = 1 then (.inf, .num (clI b)) else if k = 2 then (.num (clI a), .caps) else if k = 3 then (.inf, .inf) else (.num (clI a), .num (clI b))
theorem mkP_ok (a b k : Int) : prOk (mkP a b k) := by
  unfold mkP
  repeat' split
  · exact ⟨trivial, clI_in b⟩
  · exact ⟨clI_in a, trivial⟩
  · exact ⟨trivial, trivial⟩
  · exact ⟨clI_in a, clI_in b⟩
def psL (l e : List Int) (n : Nat) : List Bp := (List.range n).map fun j => mkP (l.getD (2 * j) 0) (l.getD (2 * j + 1) 0) (e.getD j 0 % 4)
theorem psL_succ (l e : List Int) (n : Nat) : psL l e (n + 1) = psL l e n ++ [mkP (l.getD (2 * n) 0) (l.getD (2 * n + 1) 0) (e.getD n 0 % 4)] := by
  rw [psL, psL, List.range_succ, List.map_append]; rfl
theorem psL_ok (l e : List Int) (n : Nat) : ∀ x ∈ psL l e n, prOk x := by
  intro x hx
  obtain ⟨j, _, rfl⟩ := List.mem_map.1 hx
  exact mkP_ok _ _ _
theorem psL_len (l e : List Int) (n : Nat) : (psL l e n).length = n := by rw [psL, List.length_map, List.length_range]
def rtL (ps : List Bp) : List UInt8 := rhL ++ [32] ++ bodyL ps
theorem body_snoc {ps : List Bp} (h : ps ≠ []) (p : Bp) : bodyL (ps ++ [p]) = bodyL ps ++ 44 :: prL p := by
  cases ps with
  | nil => exact absurd rfl h
  | cons x q =>
    show prL x ++ tailL (q ++ [p]) = prL x ++ tailL q ++ 44 :: prL p
    rw [tailL, tailL, List.map_append, List.flatten_append, List.append_assoc]
    simp
theorem rt_snoc {ps : List Bp} (h : ps ≠ []) (p : Bp) : (⟨(rtL ps).toArray⟩ : ByteArray) ++ (⟨#[44]⟩ : ByteArray) ++ (⟨p.1.L.toArray⟩ : ByteArray) ++ (⟨#[32]⟩ : ByteArray) ++ (⟨p.2.L.toArray⟩ : ByteArray) = ⟨(rtL (ps ++ [p])).toArray⟩ := by
  have e1 : (⟨#[44]⟩ : ByteArray) = ⟨([44] : List UInt8).toArray⟩ := rfl
  have e2 : (⟨#[32]⟩ : ByteArray) = ⟨([32] : List UInt8).toArray⟩ := rfl
  rw [e1, e2, bytes_cat, bytes_cat, bytes_cat, bytes_cat, rtL, rtL, body_snoc h, prL]
  simp
theorem rt_first (p : Bp) : (⟨(rtL []).toArray⟩ : ByteArray) ++ (⟨p.1.L.toArray⟩ : ByteArray) ++ (⟨#[32]⟩ : ByteArray) ++ (⟨p.2.L.toArray⟩ : ByteArray) = ⟨(rtL ([] ++ [p])).toArray⟩ := by
  have e2 : (⟨#[32]⟩ : ByteArray) = ⟨([32] : List UInt8).toArray⟩ := rfl
  rw [e2, bytes_cat, bytes_cat, bytes_cat, rtL, rtL, List.nil_append, bodyL, bodyL, tailL, prL]
  simp
theorem rt_bad (ps : List Bp) : (⟨(rtL ps).toArray⟩ : ByteArray) ++ (⟨#[44, 32, 53]⟩ : ByteArray) ++ (⟨#[32, 125]⟩ : ByteArray) = ⟨(rxL ps true).toArray⟩ := by
  have e1 : (⟨#[44, 32, 53]⟩ : ByteArray) = ⟨([44, 32, 53] : List UInt8).toArray⟩ := rfl
  have e2 : (⟨#[32, 125]⟩ : ByteArray) = ⟨([32, 125] : List UInt8).toArray⟩ := rfl
  rw [e1, e2, bytes_cat, bytes_cat, rtL, rxL, reL]
  simp
theorem rt_end (ps : List Bp) : (⟨(rtL ps).toArray⟩ : ByteArray) ++ (⟨#[32, 125]⟩ : ByteArray) = ⟨(rxL ps false).toArray⟩ := by
  have e2 : (⟨#[32, 125]⟩ : ByteArray) = ⟨([32, 125] : List UInt8).toArray⟩ := rfl
  rw [e2, bytes_cat, rtL, rxL, reL]
theorem rt_len (ps : List Bp) : (rtL ps).length ≤ 100 + 46 * ps.length := by
  have e : rhL.length = 37 := rfl
  rw [rtL, List.length_append, List.length_append, e, List.length_singleton]
  cases ps with
  | nil => exact (by decide : 37 + 1 + 0 ≤ 100 + 46 * 0)
  | cons p q =>
    have h1 := tail_len q
    have h2 := bd_len p.1
    have h3 := bd_len p.2
    rw [bodyL, prL, List.length_cons]
    simp only [List.length_append, List.length_singleton]
    omega
theorem dec_bd (x : Int) : decI (clI x) = ⟨(Bd.L (.num (clI x))).toArray⟩ := by
  rw [decI, Bd.L, decN_L]
  split
  · rw [show (⟨#[45]⟩ : ByteArray) = ⟨([45] : List UInt8).toArray⟩ from rfl, bytes_cat]; rfl
  · rfl
theorem getD_at {l : List Int} {k : Nat} (h : k < l.length) : l.getD k 0 = l[k] := by rw [List.getD_eq_getElem?_getD, List.getElem?_eq_getElem h]; rfl
def gd0 (l : List Int) (bad : Bool) : Bool := !bad && decide ((2 : Int) ≤ l.length)
theorem dec_cl (x : Int) : PCalls Tryd.prog 9 [.val (.int .i64 (clI x))] (.val (.string ⟨(Bd.L (.num (clI x))).toArray⟩)) := by
  have h := clI_in x
  rw [← dec_bd]
  exact dec_all _ ⟨by omega, by omega⟩
theorem cat_sz (A C X E Y : ByteArray) (hA : A.size ≤ 1200) (hC : C.size = 1) (hX : X.size ≤ 22) (hE : E.size = 1) (hY : Y.size ≤ 22) : (A ++ C).size ≤ 1201 ∧ (A ++ C ++ X).size ≤ 1223 ∧ (A ++ C ++ X ++ E).size ≤ 1224 ∧ (A ++ X).size ≤ 1222 ∧ (A ++ X ++ E).size ≤ 1223 := by
  simp only [ByteArray.size_append]
  omega
theorem bdL_sz (b : Bd) : (⟨b.L.toArray⟩ : ByteArray).size ≤ 22 := by rw [sz_list]; exact bd_len b
theorem all_snoc (P : List Bp) (p : Bp) (g : Bool) : ((P ++ [p]).all okP && g) = ((P.all okP && g) && okP p) := by
  rw [List.all_append]
  cases P.all okP <;> cases g <;> simp
theorem gd_at (l : List Int) (P : List Bp) (bad : Bool) (j : Nat) (hpl : P.length = j) (h1 : ¬ 2 * j + 1 < l.length) (h2 : 2 * j ≤ l.length) : (P.all okP && gd0 l bad) = gdP P bad := by
  rw [gd0, gdP]
  have : decide ((2 : Int) ≤ l.length) = !P.isEmpty := by
    cases P with
    | nil =>
      rw [List.length_nil] at hpl
      exact decide_eq_false (by omega)
    | cons a r =>
      rw [List.length_cons] at hpl
      exact decide_eq_true (by omega)
  rw [this]
  cases P.all okP <;> cases bad <;> cases P.isEmpty <;> rfl
def rgVx (P : List Bp) : Sd := { rgE0 with auto := false, range := P.map vP, said := 8 }
structure Rg (l : List Int) where
  j : Nat
  hj : 2 * j ≤ l.length
set_option maxHeartbeats 16000000 in
theorem lawRanges (l e : List Int) (bad : Bool) (hl : l.length ≤ 9223372036854775807) (he : e.length ≤ 9223372036854775807) (ml : ∀ i ∈ l, i ≤ 9223372036854775807 ∧ -9223372036854775808 ≤ i) (me : ∀ i ∈ e, i ≤ 9223372036854775807 ∧ -9223372036854775808 ≤ i) :
    PCalls Tryd.prog 5 [.sl 1 (l.map ciD'), .sl 1 (e.map ciD'), .val (.bool bad)] (.val (.bool true)) := by
  refine p_start Tryd.func5 Tryd.ntmps5 rfl rfl rfl fun S w => ?_
  have hlm : (l.map ciD').length = l.length := List.length_map _
  have hem : (e.map ciD').length = e.length := List.length_map _
  by_cases hb1 : 20 < l.length
  · repeat (first | refine awp_seq ?_ | refine thenA_normal ?_ | refine a_region ?_ | refine r_done ?_ | (refine r_id ?_; first | refine r_len tab_ok rfl rfl rfl rfl rfl rfl rfl ?_ | refine r_ev tab_ok rfl rfl rfl rfl byE rfl ?_ | refine r_pick_t rfl rfl rfl rfl rfl rfl rfl ?_ | refine r_off rfl rfl rfl rfl rfl rfl ?_) | refine awp_cond_t rfl ?_ | refine r_pick_t rfl rfl (congrArg (fun b => AV.val (.bool b)) (decide_eq_true (by omega))) rfl rfl rfl rfl ?_ | refine r_off rfl rfl (congrArg (fun b => AV.val (.bool b)) (decide_eq_true (by omega))) rfl rfl rfl ?_)
    refine r_call awake10_ok call6 rfl rfl trivial rfl rfl rfl rfl ?_
    repeat (first | refine thenA_normal ?_ | refine awp_ret ?_ | refine thenA_ret ?_ | refine r_done ?_ | (refine r_id ?_; first | refine r_ev tab_ok rfl rfl rfl rfl byE rfl ?_) | refine ret1 byO rfl rfl rfl ?_)
    exact Sub.refl _
  by_cases hb2 : (e.length : Int) < (l.length : Int) / 2
  · repeat (first | refine awp_seq ?_ | refine thenA_normal ?_ | refine a_region ?_ | refine r_done ?_ | (refine r_id ?_; first | refine r_len tab_ok rfl rfl rfl rfl rfl rfl rfl ?_ | refine r_ev tab_ok rfl rfl rfl rfl byE rfl ?_) | refine awp_cond_t rfl ?_ | refine r_g rfl rfl (congrArg (fun b => AV.val (.bool b)) (decide_eq_false (by omega))) ?_ | refine r_pick_t rfl rfl (congrArg (fun b => AV.val (.bool b)) (decide_eq_true (by omega))) rfl rfl rfl rfl ?_ | refine r_pick_f rfl rfl (congrArg (fun b => AV.val (.bool b)) (decide_eq_false (by omega))) rfl rfl rfl rfl ?_ | refine r_off rfl rfl (congrArg (fun b => AV.val (.bool b)) (decide_eq_true (by omega))) rfl rfl rfl ?_)
    refine r_call awake10_ok call6 rfl rfl trivial rfl rfl rfl rfl ?_
    repeat (first | refine thenA_normal ?_ | refine awp_ret ?_ | refine thenA_ret ?_ | refine r_done ?_ | (refine r_id ?_; first | refine r_ev tab_ok rfl rfl rfl rfl byE rfl ?_) | refine ret1 byO rfl rfl rfl ?_)
    exact Sub.refl _
  by_cases hb3 : 20 < e.length
  · repeat (first | refine awp_seq ?_ | refine thenA_normal ?_ | refine a_region ?_ | refine r_done ?_ | (refine r_id ?_; first | refine r_len tab_ok rfl rfl rfl rfl rfl rfl rfl ?_ | refine r_ev tab_ok rfl rfl rfl rfl byE rfl ?_) | refine r_g rfl rfl (congrArg (fun b => AV.val (.bool b)) (decide_eq_false (by omega))) ?_ | refine r_pick_f rfl rfl (congrArg (fun b => AV.val (.bool b)) (decide_eq_false (by omega))) rfl rfl rfl rfl ?_)
    refine awp_cond_p rfl (fun _ => ?_) (fun h => (h (by omega)).elim)
    repeat (first | refine awp_seq ?_ | refine a_region ?_)
    refine r_call awake10_ok call6 rfl rfl trivial rfl rfl rfl rfl ?_
    repeat (first | refine thenA_normal ?_ | refine awp_ret ?_ | refine thenA_ret ?_ | refine r_done ?_ | (refine r_id ?_; first | refine r_ev tab_ok rfl rfl rfl rfl byE rfl ?_) | refine ret1 byO rfl rfl rfl ?_)
    exact Sub.refl _
  repeat (first | refine awp_seq ?_)
  refine a_region ?_
  repeat (first | refine awp_seq ?_ | refine r_done ?_ | (refine r_id ?_; first | refine r_ev tab_ok rfl rfl rfl rfl byE rfl ?_))
  refine a_region ?_
  repeat (first | refine thenA_normal ?_ | refine r_done ?_ | (refine r_id ?_; first | refine r_len tab_ok rfl rfl rfl rfl rfl rfl rfl ?_ | refine r_ev tab_ok rfl rfl rfl rfl byE rfl ?_) | refine r_g rfl rfl (congrArg (fun b => AV.val (.bool b)) (decide_eq_false (by omega))) ?_ | refine r_pick_f rfl rfl (congrArg (fun b => AV.val (.bool b)) (decide_eq_false (by omega))) rfl rfl rfl rfl ?_)
  refine awp_cond_p rfl (fun h => (hb3 (by omega)).elim) (fun _ => ?_)
  repeat (first | refine awp_seq ?_ | refine thenA_normal ?_ | refine awp_block ?_ | refine a_region ?_ | refine awp_skip ?_ | refine r_done ?_ | (refine r_id ?_; first | refine r_ev tab_ok rfl rfl rfl rfl byE rfl ?_ | refine r_len_cnd tab_ok rfl rfl rfl rfl rfl rfl (by first | exact fun _ => rfl | exact cs1) rfl rfl rfl ?_ | refine r_ev_cnd tab_ok rfl rfl rfl rfl rfl rfl byC (by first | exact fun _ => trivial | (intro h; simp at h; first | exact ⟨by omega, by omega⟩ | omega)) rfl ?_ | refine r_and rfl rfl rfl rfl rfl rfl rfl rfl ?_))
  refine a_loop (σ := Rg l) (fun x => [.row 0 33 2 ((psL l e x.j).map fun p => rgD (vP p))]) (fun x => [(0, .sl 1 (l.map ciD')), (1, .sl 1 (e.map ciD')), (2, .val (.bool bad)), (7, .val (.string ⟨(rtL (psL l e x.j)).toArray⟩)), (8, .row 0 0), (9, .val (.bool ((psL l e x.j).all okP && gd0 l bad))), (10, .val (.int .i64 (2 * x.j : Nat)))]) (fun x => l.length - x.j) ⟨0, Nat.zero_le _⟩ (fits_conv byV byV) ?_
  rintro ⟨j, hj⟩
  dsimp only
  have hok := psL_ok l e j
  have hpl := psL_len l e j
  have hps := psL_succ l e j
  generalize psL l e j = P at hok hpl hps ⊢
  have hS : (⟨(rtL P).toArray⟩ : ByteArray).size ≤ 1200 := by
    have := rt_len P
    rw [sz_list]
    omega
  have hPm : (P.map fun p => rgD (vP p)).length = j := by rw [List.length_map, hpl]
  repeat (first | refine awp_seq ?_ | refine thenA_normal ?_ | refine a_region ?_ | refine r_done ?_ | (refine r_id ?_; first | refine r_len tab_ok rfl rfl rfl rfl rfl rfl rfl ?_ | refine r_ev tab_ok rfl rfl rfl rfl byE rfl ?_))
  refine awp_cond_p rfl (fun hlt => ?_) (fun hge => ?_)
  · have h1 : 2 * j + 1 < l.length := by omega
    have h0 : 2 * j < l.length := by omega
    have h2 : j < e.length := by omega
    have e0 : ((2 * j : Nat) : Int).toNat = 2 * j := by omega
    have e1 : (((2 * j : Nat) : Int) + 1).toNat = 2 * j + 1 := by omega
    have e2 : (((2 * j : Nat) : Int) / 2).toNat = j := by omega
    rw [getD_at h0, getD_at h1, getD_at h2] at hps
    have hcl : ∀ x : Int, max (min x 2147483647) (-2147483648) = clI x := fun _ => rfl
    have hmm : ∀ p : Bp, (P ++ [p]).map (fun p => rgD (vP p)) = P.map (fun p => rgD (vP p)) ++ [rgD (vP p)] := fun p => List.map_append
    have hi2 : ((2 * (j + 1) : Nat) : Int) = ((2 * j : Nat) : Int) + 2 := by omega
    repeat (first | refine awp_seq ?_ | refine awp_block ?_ | refine a_region ?_ | refine a_draw1 mixed_ok (by kernel_rfl) ?_ | refine awp_skip ?_ | refine r_done' ?_ | (refine r_id ?_; first | refine r_ev tab_ok rfl rfl rfl rfl byE rfl ?_ | refine r_idx tab_ok rfl rfl rfl rfl rfl rfl rfl (by first | exact ⟨by omega, by omega⟩ | (simp; omega)) rfl rfl ?_))
    simp only [e0, e1, e2, hcl]
    try simp only [hcl]
    refine r_call (dec_cl l[2 * j]) call9 rfl rfl ⟨Sub.refl _, trivial⟩ rfl rfl rfl rfl ?_
    repeat (first | (refine r_id ?_; first | refine r_ev tab_ok rfl rfl rfl rfl byE rfl ?_))
    refine r_call (dec_cl l[2 * j + 1]) call9 rfl rfl ⟨Sub.refl _, trivial⟩ rfl rfl rfl rfl ?_
    repeat (first | refine awp_seq ?_ | refine a_region ?_ | refine r_done ?_ | (refine r_id ?_; first | refine r_ev tab_ok rfl rfl rfl rfl byE rfl ?_ | refine r_idx tab_ok rfl rfl rfl rfl rfl rfl rfl (by first | exact ⟨by omega, by omega⟩ | (simp; omega)) rfl rfl ?_))
    simp only [e2]
    refine r_call (round_ok e[j] 4 (by decide) (by decide)) call7 rfl rfl ⟨Sub.refl _, Sub.refl _, trivial⟩ rfl rfl rfl rfl ?_
    have hk : 0 ≤ e[j] % 4 ∧ e[j] % 4 < 4 := by omega
    generalize e[j] % 4 = k at hps hk ⊢
    generalize l[2 * j] = a at hps ⊢
    generalize l[2 * j + 1] = b at hps ⊢
    have za := bdL_sz (.num (clI a))
    have zb := bdL_sz (.num (clI b))
    have z44 : (⟨#[44]⟩ : ByteArray).size = 1 := rfl
    have z32 : (⟨#[32]⟩ : ByteArray).size = 1 := rfl
    have zi : (⟨#[105, 110, 102, 105, 110, 105, 116, 101]⟩ : ByteArray).size ≤ 22 := by decide
    have zc : (⟨#[73, 78, 70, 73, 78, 73, 84, 69]⟩ : ByteArray).size ≤ 22 := by decide
    have hkk : k = 0 ∨ k = 1 ∨ k = 2 ∨ k = 3 := by omega
    rcases hkk with rfl | rfl | rfl | rfl
    · have hps2 : psL l e (j + 1) = P ++ [((.num (clI a), .num (clI b)) : Bp)] := hps
      obtain ⟨y1, y2, y3, y4, y5⟩ := cat_sz (⟨(rtL P).toArray⟩ : ByteArray) (⟨#[44]⟩ : ByteArray) (⟨(Bd.L (.num (clI a))).toArray⟩ : ByteArray) (⟨#[32]⟩ : ByteArray) (⟨(Bd.L (.num (clI b))).toArray⟩ : ByteArray) hS z44 za z32 zb
      by_cases hj0 : j = 0
      · obtain rfl : P = [] := List.length_eq_zero_iff.1 (by omega)
        subst hj0
        repeat (first | refine awp_seq ?_ | refine thenA_normal ?_ | refine awp_block ?_ | refine a_region ?_ | refine awp_skip ?_ | refine r_done ?_ | (refine r_id ?_; first | refine r_ev tab_ok rfl rfl rfl rfl byE rfl ?_ | refine r_ev_cnd tab_ok rfl rfl rfl rfl rfl rfl byC (by first | exact fun _ => trivial | (intro h; simp at h; first | exact ⟨by omega, by omega⟩ | omega)) rfl ?_ | refine r_and rfl rfl rfl rfl rfl rfl rfl rfl ?_ | refine r_build tab_ok rfl rfl rfl rfl rfl rfl ?_ | refine r_built tab_ok rfl rfl rfl rfl rfl rfl rfl rfl rfl ?_) | refine awp_cond_f rfl ?_)
        refine r_append tab_ok rfl rfl rfl rfl rfl rfl rfl rfl rfl (by simp) rfl ?_
        repeat (first | refine thenA_normal ?_ | refine a_region ?_ | refine r_done ?_ | (refine r_id ?_; first | refine r_ev tab_ok rfl rfl rfl rfl byE rfl ?_))
        refine ⟨⟨1, by omega⟩, by dsimp only; omega, ?_⟩
        dsimp only
        rw [hps2, hmm, all_snoc, ← rt_first (.num (clI a), .num (clI b))]
        exact fits_conv byV byV
      · have hne : P ≠ [] := fun h => by rw [h] at hpl; exact hj0 hpl.symm
        repeat (first | refine awp_seq ?_ | refine thenA_normal ?_ | refine awp_block ?_ | refine a_region ?_ | refine awp_skip ?_ | refine r_done ?_ | (refine r_id ?_; first | refine r_ev tab_ok rfl rfl rfl rfl byE rfl ?_) | refine awp_cond_f rfl ?_)
        refine awp_cond_p rfl (fun _ => ?_) (fun h => (h (by omega)).elim)
        repeat (first | refine awp_seq ?_ | refine thenA_normal ?_ | refine a_region ?_ | refine r_done ?_ | (refine r_id ?_; first | refine r_ev tab_ok rfl rfl rfl rfl byE rfl ?_ | refine r_ev_cnd tab_ok rfl rfl rfl rfl rfl rfl byC (by first | exact fun _ => trivial | (intro h; simp at h; first | exact ⟨by omega, by omega⟩ | omega)) rfl ?_ | refine r_and rfl rfl rfl rfl rfl rfl rfl rfl ?_ | refine r_build tab_ok rfl rfl rfl rfl rfl rfl ?_ | refine r_built tab_ok rfl rfl rfl rfl rfl rfl rfl rfl rfl ?_ | refine r_append tab_ok rfl rfl rfl rfl rfl rfl rfl rfl rfl (by first | omega | (simp; omega)) rfl ?_))
        refine ⟨⟨j + 1, by omega⟩, by dsimp only; omega, ?_⟩
        dsimp only
        rw [hps2, hmm, all_snoc, hi2, ← rt_snoc hne (.num (clI a), .num (clI b))]
        exact fits_conv byV byV
    · have hps2 : psL l e (j + 1) = P ++ [((.inf, .num (clI b)) : Bp)] := hps
      obtain ⟨y1, y2, y3, y4, y5⟩ := cat_sz (⟨(rtL P).toArray⟩ : ByteArray) (⟨#[44]⟩ : ByteArray) (⟨#[105, 110, 102, 105, 110, 105, 116, 101]⟩ : ByteArray) (⟨#[32]⟩ : ByteArray) (⟨(Bd.L (.num (clI b))).toArray⟩ : ByteArray) hS z44 zi z32 zb
      by_cases hj0 : j = 0
      · obtain rfl : P = [] := List.length_eq_zero_iff.1 (by omega)
        subst hj0
        repeat (first | refine awp_seq ?_ | refine thenA_normal ?_ | refine awp_block ?_ | refine a_region ?_ | refine awp_skip ?_ | refine r_done ?_ | (refine r_id ?_; first | refine r_ev tab_ok rfl rfl rfl rfl byE rfl ?_ | refine r_ev_cnd tab_ok rfl rfl rfl rfl rfl rfl byC (by first | exact fun _ => trivial | (intro h; simp at h; first | exact ⟨by omega, by omega⟩ | omega)) rfl ?_ | refine r_and rfl rfl rfl rfl rfl rfl rfl rfl ?_ | refine r_build tab_ok rfl rfl rfl rfl rfl rfl ?_ | refine r_built tab_ok rfl rfl rfl rfl rfl rfl rfl rfl rfl ?_) | refine awp_cond_t rfl ?_ | refine awp_cond_f rfl ?_)
        refine r_append tab_ok rfl rfl rfl rfl rfl rfl rfl rfl rfl (by simp) rfl ?_
        repeat (first | refine thenA_normal ?_ | refine a_region ?_ | refine r_done ?_ | (refine r_id ?_; first | refine r_ev tab_ok rfl rfl rfl rfl byE rfl ?_))
        refine ⟨⟨1, by omega⟩, by dsimp only; omega, ?_⟩
        dsimp only
        rw [hps2, hmm, all_snoc, ← rt_first (.inf, .num (clI b))]
        exact fits_conv byV byV
      · have hne : P ≠ [] := fun h => by rw [h] at hpl; exact hj0 hpl.symm
        repeat (first | refine awp_seq ?_ | refine thenA_normal ?_ | refine awp_block ?_ | refine a_region ?_ | refine r_done ?_ | (refine r_id ?_; first | refine r_ev tab_ok rfl rfl rfl rfl byE rfl ?_) | refine awp_cond_t rfl ?_)
        refine awp_cond_p rfl (fun _ => ?_) (fun h => (h (by omega)).elim)
        repeat (first | refine awp_seq ?_ | refine thenA_normal ?_ | refine a_region ?_ | refine r_done ?_ | (refine r_id ?_; first | refine r_ev tab_ok rfl rfl rfl rfl byE rfl ?_ | refine r_ev_cnd tab_ok rfl rfl rfl rfl rfl rfl byC (by first | exact fun _ => trivial | (intro h; simp at h; first | exact ⟨by omega, by omega⟩ | omega)) rfl ?_ | refine r_and rfl rfl rfl rfl rfl rfl rfl rfl ?_ | refine r_build tab_ok rfl rfl rfl rfl rfl rfl ?_ | refine r_built tab_ok rfl rfl rfl rfl rfl rfl rfl rfl rfl ?_ | refine r_append tab_ok rfl rfl rfl rfl rfl rfl rfl rfl rfl (by first | omega | (simp; omega)) rfl ?_))
        refine ⟨⟨j + 1, by omega⟩, by dsimp only; omega, ?_⟩
        dsimp only
        rw [hps2, hmm, all_snoc, hi2, ← rt_snoc hne (.inf, .num (clI b))]
        exact fits_conv byV byV
    · have hps2 : psL l e (j + 1) = P ++ [((.num (clI a), .caps) : Bp)] := hps
      obtain ⟨y1, y2, y3, y4, y5⟩ := cat_sz (⟨(rtL P).toArray⟩ : ByteArray) (⟨#[44]⟩ : ByteArray) (⟨(Bd.L (.num (clI a))).toArray⟩ : ByteArray) (⟨#[32]⟩ : ByteArray) (⟨#[73, 78, 70, 73, 78, 73, 84, 69]⟩ : ByteArray) hS z44 za z32 zc
      by_cases hj0 : j = 0
      · obtain rfl : P = [] := List.length_eq_zero_iff.1 (by omega)
        subst hj0
        repeat (first | refine awp_seq ?_ | refine thenA_normal ?_ | refine awp_block ?_ | refine a_region ?_ | refine awp_skip ?_ | refine r_done ?_ | (refine r_id ?_; first | refine r_ev tab_ok rfl rfl rfl rfl byE rfl ?_ | refine r_ev_cnd tab_ok rfl rfl rfl rfl rfl rfl byC (by first | exact fun _ => trivial | (intro h; simp at h; first | exact ⟨by omega, by omega⟩ | omega)) rfl ?_ | refine r_and rfl rfl rfl rfl rfl rfl rfl rfl ?_ | refine r_build tab_ok rfl rfl rfl rfl rfl rfl ?_ | refine r_built tab_ok rfl rfl rfl rfl rfl rfl rfl rfl rfl ?_) | refine awp_cond_t rfl ?_ | refine awp_cond_f rfl ?_)
        refine r_append tab_ok rfl rfl rfl rfl rfl rfl rfl rfl rfl (by simp) rfl ?_
        repeat (first | refine thenA_normal ?_ | refine a_region ?_ | refine r_done ?_ | (refine r_id ?_; first | refine r_ev tab_ok rfl rfl rfl rfl byE rfl ?_))
        refine ⟨⟨1, by omega⟩, by dsimp only; omega, ?_⟩
        dsimp only
        rw [hps2, hmm, all_snoc, ← rt_first (.num (clI a), .caps)]
        exact fits_conv byV byV
      · have hne : P ≠ [] := fun h => by rw [h] at hpl; exact hj0 hpl.symm
        repeat (first | refine awp_seq ?_ | refine thenA_normal ?_ | refine awp_block ?_ | refine a_region ?_ | refine r_done ?_ | (refine r_id ?_; first | refine r_ev tab_ok rfl rfl rfl rfl byE rfl ?_) | refine awp_cond_t rfl ?_ | refine awp_cond_f rfl ?_)
        refine awp_cond_p rfl (fun _ => ?_) (fun h => (h (by omega)).elim)
        repeat (first | refine awp_seq ?_ | refine thenA_normal ?_ | refine a_region ?_ | refine r_done ?_ | (refine r_id ?_; first | refine r_ev tab_ok rfl rfl rfl rfl byE rfl ?_ | refine r_ev_cnd tab_ok rfl rfl rfl rfl rfl rfl byC (by first | exact fun _ => trivial | (intro h; simp at h; first | exact ⟨by omega, by omega⟩ | omega)) rfl ?_ | refine r_and rfl rfl rfl rfl rfl rfl rfl rfl ?_ | refine r_build tab_ok rfl rfl rfl rfl rfl rfl ?_ | refine r_built tab_ok rfl rfl rfl rfl rfl rfl rfl rfl rfl ?_ | refine r_append tab_ok rfl rfl rfl rfl rfl rfl rfl rfl rfl (by first | omega | (simp; omega)) rfl ?_))
        refine ⟨⟨j + 1, by omega⟩, by dsimp only; omega, ?_⟩
        dsimp only
        rw [hps2, hmm, all_snoc, hi2, ← rt_snoc hne (.num (clI a), .caps)]
        exact fits_conv byV byV
    · have hps2 : psL l e (j + 1) = P ++ [((.inf, .inf) : Bp)] := hps
      obtain ⟨y1, y2, y3, y4, y5⟩ := cat_sz (⟨(rtL P).toArray⟩ : ByteArray) (⟨#[44]⟩ : ByteArray) (⟨#[105, 110, 102, 105, 110, 105, 116, 101]⟩ : ByteArray) (⟨#[32]⟩ : ByteArray) (⟨#[105, 110, 102, 105, 110, 105, 116, 101]⟩ : ByteArray) hS z44 zi z32 zi
      by_cases hj0 : j = 0
      · obtain rfl : P = [] := List.length_eq_zero_iff.1 (by omega)
        subst hj0
        repeat (first | refine awp_seq ?_ | refine thenA_normal ?_ | refine awp_block ?_ | refine a_region ?_ | refine awp_skip ?_ | refine r_done ?_ | (refine r_id ?_; first | refine r_ev tab_ok rfl rfl rfl rfl byE rfl ?_ | refine r_ev_cnd tab_ok rfl rfl rfl rfl rfl rfl byC (by first | exact fun _ => trivial | (intro h; simp at h; first | exact ⟨by omega, by omega⟩ | omega)) rfl ?_ | refine r_and rfl rfl rfl rfl rfl rfl rfl rfl ?_ | refine r_build tab_ok rfl rfl rfl rfl rfl rfl ?_ | refine r_built tab_ok rfl rfl rfl rfl rfl rfl rfl rfl rfl ?_) | refine awp_cond_t rfl ?_ | refine awp_cond_f rfl ?_)
        refine r_append tab_ok rfl rfl rfl rfl rfl rfl rfl rfl rfl (by simp) rfl ?_
        repeat (first | refine thenA_normal ?_ | refine a_region ?_ | refine r_done ?_ | (refine r_id ?_; first | refine r_ev tab_ok rfl rfl rfl rfl byE rfl ?_))
        refine ⟨⟨1, by omega⟩, by dsimp only; omega, ?_⟩
        dsimp only
        rw [hps2, hmm, all_snoc, ← rt_first (.inf, .inf)]
        exact fits_conv byV byV
      · have hne : P ≠ [] := fun h => by rw [h] at hpl; exact hj0 hpl.symm
        repeat (first | refine awp_seq ?_ | refine thenA_normal ?_ | refine awp_block ?_ | refine a_region ?_ | refine r_done ?_ | (refine r_id ?_; first | refine r_ev tab_ok rfl rfl rfl rfl byE rfl ?_) | refine awp_cond_t rfl ?_ | refine awp_cond_f rfl ?_)
        refine awp_cond_p rfl (fun _ => ?_) (fun h => (h (by omega)).elim)
        repeat (first | refine awp_seq ?_ | refine thenA_normal ?_ | refine a_region ?_ | refine r_done ?_ | (refine r_id ?_; first | refine r_ev tab_ok rfl rfl rfl rfl byE rfl ?_ | refine r_ev_cnd tab_ok rfl rfl rfl rfl rfl rfl byC (by first | exact fun _ => trivial | (intro h; simp at h; first | exact ⟨by omega, by omega⟩ | omega)) rfl ?_ | refine r_and rfl rfl rfl rfl rfl rfl rfl rfl ?_ | refine r_build tab_ok rfl rfl rfl rfl rfl rfl ?_ | refine r_built tab_ok rfl rfl rfl rfl rfl rfl rfl rfl rfl ?_ | refine r_append tab_ok rfl rfl rfl rfl rfl rfl rfl rfl rfl (by first | omega | (simp; omega)) rfl ?_))
        refine ⟨⟨j + 1, by omega⟩, by dsimp only; omega, ?_⟩
        dsimp only
        rw [hps2, hmm, all_snoc, hi2, ← rt_snoc hne (.inf, .inf)]
        exact fits_conv byV byV
  · have h1 : ¬ 2 * j + 1 < l.length := by omega
    have hG := gd_at l P bad j hpl h1 hj
    have hone := one10_at (rx_at P bad hok (by omega))
    have z3 : (⟨#[44, 32, 53]⟩ : ByteArray).size = 3 := rfl
    have z2 : (⟨#[32, 125]⟩ : ByteArray).size = 2 := rfl
    have z4 : ((⟨(rtL P).toArray⟩ : ByteArray) ++ (⟨#[44, 32, 53]⟩ : ByteArray)).size ≤ 1300 := by rw [ByteArray.size_append, z3]; omega
    rw [hG]
    have key : ∀ T : ByteArray, T = ⟨(rxL P bad).toArray⟩ → PCalls Tryd.prog 8 [.val (.string T)] (.tup [dfA (rgVE P bad), .val (.int .i64 0)]) := fun T h => by rw [h]; exact hone
    clear hone
    cases bad with
    | true =>
      rw [show gdP P true = false from rfl]
      have hV : rgVE P true = rgE0 := rfl
      rw [hV] at key
      repeat (first | refine awp_seq ?_ | refine thenA_normal ?_ | refine a_region ?_ | refine awp_exit ?_ | refine r_done ?_ | (refine r_id ?_; first | refine r_ev tab_ok rfl rfl rfl rfl byE rfl ?_) | refine awp_cond_t rfl ?_)
      refine r_call (key _ (rt_bad P)) call8 rfl rfl ⟨Sub.refl _, trivial⟩ rfl rfl rfl rfl ?_
      repeat (first | refine awp_seq ?_ | refine thenA_normal ?_ | refine a_region ?_ | refine awp_skip ?_ | refine r_done ?_ | (refine r_id ?_; first | refine r_ev tab_ok rfl rfl rfl rfl byE rfl ?_ | refine r_ld tab_ok rfl rfl rfl rfl rfl ?_ | refine r_wr tab_ok rfl rfl rfl rfl rfl ?_ | refine r_st tab_ok rfl rfl rfl rfl ?_ | refine r_pick_t rfl rfl rfl rfl rfl rfl rfl ?_ | refine r_len_on tab_ok rfl rfl rfl rfl rfl rfl rfl rfl rfl ?_ | refine r_ev_on tab_ok rfl rfl rfl rfl rfl rfl (by first | exact trivial | exact ⟨by omega, by omega⟩ | omega) rfl ?_ | refine r_ld_on tab_ok rfl rfl rfl rfl rfl rfl rfl ?_) | refine awp_cond_t rfl ?_ | refine awp_cond_f rfl ?_ | refine r_g rfl rfl rfl ?_)
      refine r_call awake10_ok call6 rfl rfl trivial rfl rfl rfl rfl ?_
      repeat (first | refine thenA_normal ?_ | refine awp_ret ?_ | refine thenA_ret ?_ | refine r_done ?_ | (refine r_id ?_; first | refine r_ev tab_ok rfl rfl rfl rfl byE rfl ?_ | refine r_pick_t rfl rfl rfl rfl rfl rfl rfl ?_) | refine ret1 byO rfl rfl rfl ?_)
      exact Sub.refl _
    | false =>
      cases hg : gdP P false with
      | false =>
        have hV : rgVE P false = rgE0 := by rw [rgVE, hg]; rfl
        rw [hV] at key
        repeat (first | refine awp_seq ?_ | refine thenA_normal ?_ | refine a_region ?_ | refine awp_exit ?_ | refine awp_skip ?_ | refine r_done ?_ | (refine r_id ?_; first | refine r_ev tab_ok rfl rfl rfl rfl byE rfl ?_) | refine awp_cond_f rfl ?_)
        refine r_call (key _ (rt_end P)) call8 rfl rfl ⟨Sub.refl _, trivial⟩ rfl rfl rfl rfl ?_
        repeat (first | refine awp_seq ?_ | refine thenA_normal ?_ | refine a_region ?_ | refine awp_skip ?_ | refine r_done ?_ | (refine r_id ?_; first | refine r_ev tab_ok rfl rfl rfl rfl byE rfl ?_ | refine r_ld tab_ok rfl rfl rfl rfl rfl ?_ | refine r_wr tab_ok rfl rfl rfl rfl rfl ?_ | refine r_st tab_ok rfl rfl rfl rfl ?_ | refine r_pick_t rfl rfl rfl rfl rfl rfl rfl ?_ | refine r_len_on tab_ok rfl rfl rfl rfl rfl rfl rfl rfl rfl ?_ | refine r_ev_on tab_ok rfl rfl rfl rfl rfl rfl (by first | exact trivial | exact ⟨by omega, by omega⟩ | omega) rfl ?_ | refine r_ld_on tab_ok rfl rfl rfl rfl rfl rfl rfl ?_) | refine awp_cond_t rfl ?_ | refine awp_cond_f rfl ?_ | refine r_g rfl rfl rfl ?_)
        refine r_call awake10_ok call6 rfl rfl trivial rfl rfl rfl rfl ?_
        repeat (first | refine thenA_normal ?_ | refine awp_ret ?_ | refine thenA_ret ?_ | refine r_done ?_ | (refine r_id ?_; first | refine r_ev tab_ok rfl rfl rfl rfl byE rfl ?_ | refine r_pick_t rfl rfl rfl rfl rfl rfl rfl ?_) | refine ret1 byO rfl rfl rfl ?_)
        exact Sub.refl _
      | true =>
        have hV : rgVE P false = rgVx P := by rw [rgVE, hg]; rfl
        rw [hV] at key
        have hPr : ((P.map vP).map rgD).length = j := by rw [List.length_map, List.length_map, hpl]
        repeat (first | refine awp_seq ?_ | refine thenA_normal ?_ | refine a_region ?_ | refine awp_exit ?_ | refine awp_skip ?_ | refine r_done ?_ | (refine r_id ?_; first | refine r_ev tab_ok rfl rfl rfl rfl byE rfl ?_) | refine awp_cond_f rfl ?_)
        refine r_call (key _ (rt_end P)) call8 rfl rfl ⟨Sub.refl _, trivial⟩ rfl rfl rfl rfl ?_
        have hrl : (rgVx P).range.length = (P.map fun p => rgD (vP p)).length := by rw [hPm, ← hPr, List.length_map]; rfl
        repeat (first | refine awp_seq ?_ | refine thenA_normal ?_ | refine awp_block ?_ | refine a_region ?_ | refine awp_skip ?_ | refine r_done ?_ | (refine r_id ?_; first | refine r_ev tab_ok rfl rfl rfl rfl byE rfl ?_ | refine r_ld tab_ok rfl rfl rfl rfl rfl ?_ | refine r_wr tab_ok rfl rfl rfl rfl rfl ?_ | refine r_st tab_ok rfl rfl rfl rfl ?_ | refine r_pick_f rfl rfl rfl rfl rfl rfl rfl ?_ | refine r_len_on tab_ok rfl rfl rfl rfl rfl rfl rfl rfl rfl ?_ | refine r_ev_on tab_ok rfl rfl rfl rfl rfl rfl (by first | exact trivial | exact ⟨by omega, by omega⟩ | omega) rfl ?_ | refine r_ld_on tab_ok rfl rfl rfl rfl rfl rfl rfl ?_) | refine awp_cond_f rfl ?_ | refine r_g rfl rfl (congrArg (fun b => AV.val (.bool b)) (bnot_t (by omega))) ?_ | refine r_pick_f rfl rfl (congrArg (fun b => AV.val (.bool b)) (bnot_t (by omega))) rfl rfl rfl rfl ?_)
        refine a_loop (σ := {k : Nat // k ≤ j}) (fun _ => [.row 0 33 2 (P.map fun p => rgD (vP p)), .box 29 (dfC (rgVx P))]) (fun x => [(8, .row 0 0), (15, .ptr 1 0), (17, .val (.int .i64 x.1))]) (fun x => j - x.1) ⟨0, Nat.zero_le _⟩ (fits_conv byV byV) ?_
        rintro ⟨k, hk⟩
        dsimp only
        by_cases hkj : k < j
        · have hkP : k < P.length := by omega
          have ek : (((k : Nat) : Int)).toNat = k := Int.toNat_natCast k
          repeat (first | refine awp_seq ?_ | refine thenA_normal ?_ | refine a_region ?_ | refine r_done ?_ | (refine r_id ?_; first | refine r_ev tab_ok rfl rfl rfl rfl byE rfl ?_ | refine r_ld tab_ok rfl rfl rfl rfl rfl ?_))
          refine awp_cond_p rfl (fun _ => ?_) (fun h => (h (by omega)).elim)
          repeat (first | refine awp_seq ?_ | refine awp_block ?_ | refine a_draw1 mixed_ok (by kernel_rfl) ?_ | refine awp_skip ?_ | (refine r_id ?_; first | refine r_ev tab_ok rfl rfl rfl rfl byE rfl ?_ | refine r_ld tab_ok rfl rfl rfl rfl rfl ?_ | refine r_idx tab_ok rfl rfl rfl rfl rfl rfl rfl (by first | exact ⟨by omega, by omega⟩ | (simp; omega)) rfl rfl ?_ | refine r_idxr tab_ok rfl rfl rfl rfl rfl rfl rfl rfl (by first | exact ⟨by omega, by omega⟩ | (simp; omega)) rfl ?_ | refine r_lde tab_ok rfl rfl rfl rfl rfl (by omega) rfl rfl rfl rfl ?_))
          have hel : ∀ h, (rgVx P).range[((k : Nat) : Int).toNat]'h = vP (P[((k : Nat) : Int).toNat]'(by rw [ek]; exact hkP)) := fun h => List.getElem_map vP
          simp only [hel]
          refine r_neqRg (vP (P[((k : Nat) : Int).toNat]'(by rw [ek]; exact hkP))) rfl rfl rfl rfl rfl rfl rfl ?_
          repeat (first | refine thenA_normal ?_ | refine a_region ?_ | refine awp_skip ?_ | refine r_done ?_ | refine r_done' ?_ | (refine r_id ?_; first | refine r_ev tab_ok rfl rfl rfl rfl byE rfl ?_) | refine awp_cond_f rfl ?_)
          exact ⟨⟨k + 1, by omega⟩, by dsimp only; omega, fits_conv byV byV⟩
        · repeat (first | refine awp_seq ?_ | refine thenA_normal ?_ | refine a_region ?_ | refine r_done ?_ | (refine r_id ?_; first | refine r_ev tab_ok rfl rfl rfl rfl byE rfl ?_ | refine r_ld tab_ok rfl rfl rfl rfl rfl ?_))
          refine awp_cond_p rfl (fun h => (hkj (by omega)).elim) (fun _ => ?_)
          repeat (first | refine awp_seq ?_ | refine a_region ?_ | refine awp_exit ?_)
          refine r_call awake10_ok call6 rfl rfl trivial rfl rfl rfl rfl ?_
          repeat (first | refine thenA_normal ?_ | refine awp_ret ?_ | refine r_done ?_ | (refine r_id ?_; first | refine r_ev tab_ok rfl rfl rfl rfl byE rfl ?_) | refine ret1 byO rfl rfl rfl ?_)
          exact Sub.refl _
end Go.Proofs.YtihakfihojickaaDoor
