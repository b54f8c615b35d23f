/- RulesImportant, walked. -/
import Derived.Test.YtiolnmfaeenlmaaGreatDoorRs
namespace Go.Proofs.YtiolnmfaeenlmaaGreatDoor
open Go Go.RowKit
set_option maxRecDepth 20000

theorem r_scutE {P : Program} {tab : List (Nat × TE)} {ops : Array Oper} {N : Nat} {K : AS → Prop} {r : List Oper} {fo fo' : Option (List Nat)} {M : List AB} {F : List (Nat × AV)} {dt : Tmp} {o : Oper} (ht : TyTab P tab) {T : Nat} {x : Operand} {lo hi : Option Operand} {a b : Option Int} {s e : ByteArray} (hg : o.guard = none) (ho : o.op = .slice T x lo hi none) (hT : kindAt tab T = some .str) (hx : aval (look F) x = .val (.string s)) (hlo : cutLo (aval (look F)) lo = some a) (hhi : cutLo (aval (look F)) hi = some b)
    (hdd : o.dst = some dt) (hd : dstB o.dst N = true) (hb : 0 ≤ a.getD 0 ∧ a.getD 0 ≤ b.getD s.size ∧ b.getD s.size ≤ (s.size : Int)) (he : s.extract (a.getD 0).toNat (b.getD s.size).toNat = e) (hp : popF fo 0 = some fo') (k : RunX P ops N K r fo' M ((dt, .val (.string e)) :: F)) : RunX P ops N K (o :: r) fo M F := by
  subst he
  exact r_scut ht hg ho hT hx hlo hhi hdd hd hb hp k
def b5 : ByteArray := ⟨#[32, 32, 32, 32, 32]⟩
theorem cut5 : ∀ b : Nat, b < 6 → b5.extract 0 b = ⟨(spL b).toArray⟩
  | 0, _ => rfl
  | 1, _ => rfl
  | 2, _ => rfl
  | 3, _ => rfl
  | 4, _ => rfl
  | 5, _ => rfl
  | b + 6, h => absurd h (by omega)
def pfL (w : List UInt8) (b t : Nat) : List UInt8 := hdI ++ [32] ++ w ++ spL b ++ rpL b t
theorem pf_zero (w : List UInt8) (b : Nat) : (⟨#[97, 32, 123, 32, 99, 111, 108, 111, 114, 58, 32]⟩ : ByteArray) ++ (⟨w.toArray⟩ : ByteArray) ++ (⟨(spL b).toArray⟩ : ByteArray) = ⟨(pfL w b 0).toArray⟩ := by
  rw [show (⟨#[97, 32, 123, 32, 99, 111, 108, 111, 114, 58, 32]⟩ : ByteArray) = ⟨(hdI ++ [32]).toArray⟩ from rfl, bytes_cat, bytes_cat, pfL, rpL, List.append_nil]
theorem pf_succ (w : List UInt8) (b t : Nat) : (⟨(pfL w b t).toArray⟩ : ByteArray) ++ (⟨#[33]⟩ : ByteArray) ++ (⟨(spL b).toArray⟩ : ByteArray) ++ (⟨#[73, 109, 80, 111, 114, 116, 97, 110, 116]⟩ : ByteArray) ++ (⟨(spL b).toArray⟩ : ByteArray) = ⟨(pfL w b (t + 1)).toArray⟩ := by
  rw [show (⟨#[33]⟩ : ByteArray) = ⟨([33] : List UInt8).toArray⟩ from rfl, show (⟨#[73, 109, 80, 111, 114, 116, 97, 110, 116]⟩ : ByteArray) = ⟨imL.toArray⟩ from rfl, bytes_cat, bytes_cat, bytes_cat, bytes_cat, pfL, pfL, rpL]
  simp only [List.append_assoc]
theorem pf_end (w : List UInt8) (b t : Nat) : (⟨(pfL w b t).toArray⟩ : ByteArray) ++ (⟨#[125]⟩ : ByteArray) = ⟨(imT w b t).toArray⟩ := by
  rw [show (⟨#[125]⟩ : ByteArray) = ⟨([125] : List UInt8).toArray⟩ from rfl, bytes_cat, pfL, imT, tlL]
  simp only [List.append_assoc]
theorem rp_len (b : Nat) : ∀ t, (rpL b t).length = t * (10 + 2 * b)
  | 0 => by rw [Nat.zero_mul]; rfl
  | t + 1 => by
    rw [rpL, List.length_append, rp_len b t, List.length_append, List.length_append, List.length_append, spL, List.length_replicate, show imL.length = 9 from rfl, List.length_singleton]
    have e : (t + 1) * (10 + 2 * b) = t * (10 + 2 * b) + (10 + 2 * b) := Nat.succ_mul _ _
    omega
theorem pf_len (w : List UInt8) (b t : Nat) (hb : b < 6) (ht : t < 4) (hw : w.length ≤ 20) : (pfL w b t).length ≤ 120 := by
  have h := rp_len b t
  have h1 : t * (10 + 2 * b) ≤ 3 * 20 := Nat.mul_le_mul (by omega) (by omega)
  rw [pfL, List.length_append, List.length_append, List.length_append, List.length_append, spL, List.length_replicate, h, show hdI.length = 10 from rfl, List.length_singleton]
  omega
theorem szs (A B I : ByteArray) (hA : A.size ≤ 120) (hB : B.size ≤ 5) (hI : I.size = 9) : (A ++ (⟨#[33]⟩ : ByteArray)).size ≤ 121 ∧ (A ++ (⟨#[33]⟩ : ByteArray) ++ B).size ≤ 126 ∧ (A ++ (⟨#[33]⟩ : ByteArray) ++ B ++ I).size ≤ 135 := by
  have h1 : (⟨#[33]⟩ : ByteArray).size = 1 := rfl
  simp only [ByteArray.size_append]
  omega
set_option maxHeartbeats 16000000 in
theorem lawImportant (s : ByteArray) (bl tm : Int) (hs : s.size ≤ 9223372036854775807) : PCalls Tryz.prog 6 [.val (.string s), .val (.int .i64 bl), .val (.int .i64 tm)] (.val (.bool true)) := by
  refine p_start Tryz.func6 Tryz.ntmps6 rfl rfl rfl fun S w => ?_
  have hsz := str_size s
  repeat (first | refine awp_seq ?_ | refine thenA_normal ?_ | refine a_region ?_ | refine r_done ?_ | (refine r_id ?_; first | refine r_ev tab_ok rfl rfl rfl rfl byE rfl ?_ | refine r_ev_cnd tab_ok rfl rfl rfl rfl rfl rfl byC (by first | exact fun _ => trivial | (intro h; simp at h; first | exact ⟨by omega, by omega⟩ | omega)) rfl ?_ | refine r_or rfl rfl rfl rfl rfl rfl rfl rfl ?_))
  refine awp_cond rfl (fun h => ?_) (fun h => ?_)
  · repeat (first | refine awp_seq ?_ | refine a_region ?_)
    refine r_call awake4_ok call11 rfl rfl trivial rfl rfl rfl rfl ?_
    repeat (first | refine thenA_normal ?_ | refine awp_ret ?_ | refine thenA_ret ?_ | refine r_done ?_ | (refine r_id ?_; first | refine r_ev tab_ok rfl rfl rfl rfl byE rfl ?_) | refine ret1 byO rfl rfl rfl ?_)
    exact Sub.refl _
  simp only [Bool.or_eq_false_iff, decide_eq_false_iff_not] at h
  have hb : 1 ≤ s.size ∧ s.size ≤ 20 ∧ 0 ≤ bl ∧ bl ≤ 5 ∧ 0 ≤ tm ∧ tm ≤ 3 := by omega
  clear h
  obtain ⟨hw1, hw2, hb1, hb2, ht1, ht2⟩ := hb
  obtain ⟨b, rfl⟩ : ∃ b : Nat, bl = b := ⟨bl.toNat, by omega⟩
  obtain ⟨t, rfl⟩ : ∃ t : Nat, tm = t := ⟨tm.toNat, by omega⟩
  have hb6 : b < 6 := by omega
  have ht4 : t < 4 := by omega
  repeat (first | refine awp_seq ?_ | refine thenA_normal ?_ | refine awp_block ?_ | refine a_region ?_ | refine awp_skip ?_ | refine r_done ?_ | (refine r_id ?_; first | refine r_ev tab_ok rfl rfl rfl rfl byE rfl ?_))
  refine a_loop (σ := {j : Nat // j ≤ s.data.toList.length ∧ (s.data.toList.take j).all ltB = true}) (fun _ => []) (fun x => [(0, .val (.string s)), (1, .val (.int .i64 b)), (2, .val (.int .i64 t)), (7, .val (.int .i64 x.1))]) (fun x => s.size - x.1) ⟨0, Nat.zero_le _, rfl⟩ (fits_of rfl byK) ?_
  rintro ⟨j, hj, hall⟩
  dsimp only
  repeat (first | refine awp_seq ?_ | refine thenA_normal ?_ | refine a_region ?_ | refine r_done ?_ | (refine r_id ?_; first | refine r_ev tab_ok rfl rfl rfl rfl byE rfl ?_))
  refine awp_cond_p rfl (fun hlt2 => ?_) (fun hge2 => ?_)
  · have hj' : j < s.data.toList.length := by omega
    have hgb : s.data.toList.getD ((j : Nat) : Int).toNat 0 = s.data.toList[j] := by rw [Int.toNat_natCast, getD_byte hj']
    repeat (first | refine awp_seq ?_ | refine thenA_normal ?_ | refine awp_block ?_ | refine a_region ?_ | refine awp_skip ?_ | refine r_done ?_ | (refine r_id ?_; first | refine r_ev tab_ok rfl rfl rfl rfl byE rfl ?_ | refine r_ev_cnd tab_ok rfl rfl rfl rfl rfl rfl byC (by first | exact fun _ => trivial | (intro h; simp at h; first | exact ⟨by omega, by omega⟩ | omega)) rfl ?_ | refine r_or rfl rfl rfl rfl rfl rfl rfl rfl ?_))
    rw [hgb]
    refine awp_cond rfl (fun h3 => ?_) (fun h3 => ?_)
    · repeat (first | refine awp_seq ?_ | refine a_region ?_)
      refine r_call awake4_ok call11 rfl rfl trivial rfl rfl rfl rfl ?_
      repeat (first | refine thenA_normal ?_ | refine awp_ret ?_ | refine thenA_ret ?_ | refine blockA_ret ?_ | refine r_done ?_ | (refine r_id ?_; first | refine r_ev tab_ok rfl rfl rfl rfl byE rfl ?_) | refine ret1 byO rfl rfl rfl ?_)
      exact Sub.refl _
    · have hb : ltB s.data.toList[j] = true := by
        rw [Bool.or_eq_false_iff, decide_eq_false_iff_not, decide_eq_false_iff_not] at h3
        rw [ltB, Bool.and_eq_true, decide_eq_true_eq, decide_eq_true_eq]
        omega
      repeat (first | refine thenA_normal ?_ | refine a_region ?_ | refine awp_skip ?_ | refine r_done ?_ | (refine r_id ?_; first | refine r_ev tab_ok rfl rfl rfl rfl byE rfl ?_))
      exact ⟨⟨j + 1, hj', by
        rw [List.take_add_one, List.getElem?_eq_getElem hj', List.all_append, hall, Bool.true_and]
        show (ltB s.data.toList[j] && true) = true
        rw [hb]; rfl⟩, by dsimp only; omega, fits_of rfl byK⟩
  have hje : j = s.data.toList.length := by omega
  subst hje
  rw [List.take_length] at hall
  have hwdb : wdB s.data.toList = true := by
    rw [wdB, hall, Bool.and_true, Bool.not_eq_true', List.isEmpty_eq_false_iff]
    intro h4
    rw [h4] at hsz
    simp at hsz
    omega
  have hs5 : (⟨#[32, 32, 32, 32, 32]⟩ : ByteArray).size = 5 := rfl
  have hs11 : (⟨#[97, 32, 123, 32, 99, 111, 108, 111, 114, 58, 32]⟩ : ByteArray).size = 11 := rfl
  have hcut : (⟨#[32, 32, 32, 32, 32]⟩ : ByteArray).extract (0 : Int).toNat ((b : Nat) : Int).toNat = ⟨(spL b).toArray⟩ := by rw [Int.toNat_natCast]; exact cut5 b hb6
  have hsp : (⟨(spL b).toArray⟩ : ByteArray).size ≤ 5 := by rw [sz_list, spL, List.length_replicate]; omega
  have hz1 : ((⟨#[97, 32, 123, 32, 99, 111, 108, 111, 114, 58, 32]⟩ : ByteArray) ++ s).size ≤ 40 := by rw [ByteArray.size_append]; omega
  have hse : s = ⟨s.data.toList.toArray⟩ := rfl
  have hp0 := pf_zero s.data.toList b
  rw [← hse] at hp0
  repeat (first | refine awp_seq ?_ | refine a_region ?_ | refine awp_exit ?_ | (refine r_id ?_; first | refine r_ev tab_ok rfl rfl rfl rfl byE rfl ?_))
  refine r_scutE (e := ⟨(spL b).toArray⟩) tab_ok rfl rfl rfl rfl rfl rfl rfl rfl (by show (0 : Int) ≤ 0 ∧ (0 : Int) ≤ (b : Int) ∧ (b : Int) ≤ ((⟨#[32, 32, 32, 32, 32]⟩ : ByteArray).size : Int); omega) hcut rfl ?_
  repeat (first | refine awp_seq ?_ | refine thenA_normal ?_ | refine awp_block ?_ | refine a_region ?_ | refine r_done ?_ | (refine r_id ?_; first | refine r_ev tab_ok rfl rfl rfl rfl byE rfl ?_))
  rw [hp0]
  refine a_loop (σ := {k : Nat // k ≤ t}) (fun _ => []) (fun x => [(0, .val (.string s)), (2, .val (.int .i64 t)), (8, .val (.string ⟨(spL b).toArray⟩)), (9, .val (.string ⟨(pfL s.data.toList b x.1).toArray⟩)), (10, .val (.int .i64 x.1))]) (fun x => t - x.1) ⟨0, Nat.zero_le _⟩ (fits_of rfl byK) ?_
  rintro ⟨k, hk⟩
  dsimp only
  have hA : (⟨(pfL s.data.toList b k).toArray⟩ : ByteArray).size ≤ 120 := by rw [sz_list]; exact pf_len _ b k hb6 (by omega) (by omega)
  have hs1 : (⟨#[33]⟩ : ByteArray).size = 1 := rfl
  have hs9 : (⟨#[73, 109, 80, 111, 114, 116, 97, 110, 116]⟩ : ByteArray).size = 9 := rfl
  have hs125 : (⟨#[125]⟩ : ByteArray).size = 1 := rfl
  obtain ⟨y1, y2, y3⟩ := szs (⟨(pfL s.data.toList b k).toArray⟩ : ByteArray) (⟨(spL b).toArray⟩ : ByteArray) (⟨#[73, 109, 80, 111, 114, 116, 97, 110, 116]⟩ : ByteArray) hA hsp hs9
  have hsucc := pf_succ s.data.toList b k
  repeat (first | refine awp_seq ?_ | refine thenA_normal ?_ | refine a_region ?_ | refine r_done ?_ | (refine r_id ?_; first | refine r_ev tab_ok rfl rfl rfl rfl byE rfl ?_))
  refine awp_cond_p rfl (fun hlt => ?_) (fun hge => ?_)
  · repeat (first | refine awp_seq ?_ | refine thenA_normal ?_ | refine awp_block ?_ | refine a_region ?_ | refine awp_skip ?_ | refine r_done ?_ | (refine r_id ?_; first | refine r_ev tab_ok rfl rfl rfl rfl byE rfl ?_))
    refine ⟨⟨k + 1, by omega⟩, by dsimp only; omega, ?_⟩
    dsimp only
    rw [← hsucc]
    exact fits_of rfl byK
  have hkt : k = t := by omega
  subst hkt
  have hend := pf_end s.data.toList b k
  have hz2 : ((⟨(pfL s.data.toList b k).toArray⟩ : ByteArray) ++ (⟨#[125]⟩ : ByteArray)).size ≤ 130 := by rw [ByteArray.size_append, hs125]; omega
  have him := im_ok s.data.toList b k hb6 ht4 hwdb (by omega)
  rw [← hse] at him
  have him2 : PCalls Tryz.prog 12 [.sl 1 (((⟨(pfL s.data.toList b k).toArray⟩ : ByteArray) ++ (⟨#[125]⟩ : ByteArray)).data.toList.map bD)] (.tup [.sl 4 ([rlI k s].map rlD), .val (.int .i64 0)]) := by rw [hend]; exact him
  clear him hsucc hend hp0 hcut hall hwdb
  have hkk : k = 0 ∨ k = 1 ∨ k = 2 ∨ k = 3 := by omega
  rcases hkk with rfl | rfl | rfl | rfl
  all_goals
    repeat (first | refine awp_seq ?_ | refine a_region ?_ | refine awp_exit ?_ | (refine r_id ?_; first | refine r_ev tab_ok rfl rfl rfl rfl byE rfl ?_ | refine r_strd tab_ok rfl rfl rfl rfl rfl rfl (by omega) rfl rfl rfl ?_))
    refine r_call him2 call12 rfl rfl ⟨Sub.refl _, trivial⟩ rfl rfl rfl rfl ?_
    repeat (first | refine awp_seq ?_ | refine thenA_normal ?_ | refine a_region ?_ | refine awp_skip ?_ | refine r_done ?_ | (refine r_id ?_; first | refine r_len tab_ok rfl rfl rfl rfl rfl rfl rfl ?_ | refine r_ev tab_ok rfl rfl rfl rfl byE rfl ?_ | refine r_idxd tab_ok rfl rfl rfl rfl rfl rfl rfl (by decide) rfl rfl rfl ?_ | refine r_pick_t rfl rfl rfl rfl rfl rfl rfl ?_ | refine r_pick_f rfl rfl rfl rfl rfl rfl rfl ?_ | refine r_len_on tab_ok rfl rfl rfl rfl rfl rfl rfl rfl rfl ?_ | refine r_ev_on tab_ok rfl rfl rfl rfl rfl rfl (by first | exact trivial | exact ⟨by omega, by omega⟩ | omega) rfl ?_) | refine awp_cond_t rfl ?_ | refine awp_cond_f rfl ?_ | refine r_g rfl rfl rfl ?_ | refine r_g rfl rfl (congrArg (fun b => AV.val (.bool b)) (decide_eq_true rfl)) ?_)
    refine r_call awake4_ok call11 rfl rfl trivial rfl rfl rfl rfl ?_
    repeat (first | refine thenA_normal ?_ | refine awp_ret ?_ | refine thenA_ret ?_ | refine r_done ?_ | (refine r_id ?_; first | refine r_ev tab_ok rfl rfl rfl rfl byE rfl ?_ | refine r_pick_t rfl rfl rfl rfl rfl rfl rfl ?_) | refine ret1 byO rfl rfl rfl ?_ | refine r_pick_t rfl rfl (congrArg (fun b => AV.val (.bool b)) (decide_eq_true rfl)) rfl rfl rfl rfl ?_)
    exact Sub.refl _
end Go.Proofs.YtiolnmfaeenlmaaGreatDoor
