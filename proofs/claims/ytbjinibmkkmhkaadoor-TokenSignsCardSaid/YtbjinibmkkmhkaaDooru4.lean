/- The law TokenSigns. -/
import Derived.Test.YtbjinibmkkmhkaaDooru2
import Derived.Test.YtbjinibmkkmhkaaDoorr9
namespace Go.Proofs.YtbjinibmkkmhkaaDoor
open Go Go.RowKit
set_option maxRecDepth 20000

theorem round_eq (k n : Int) (hn : 0 < n) : (k.tmod n + n).tmod n = k % n := by
  have h1 := Int.tmod_lt_of_pos k hn
  have h2 := Int.lt_tmod_of_pos k hn
  rw [Int.tmod_eq_emod_of_nonneg (by omega), Int.add_emod_right, Int.tmod_eq_emod]
  split
  · simp
  · rw [Int.sub_emod, Int.emod_emod_of_dvd _ (Int.dvd_refl n)]
    have : ((n.natAbs : Int)) % n = 0 := by rw [Int.natAbs_of_nonneg (by omega)]; exact Int.emod_self
    rw [this]; simp
theorem round_ok (k n : Int) (hn0 : 0 < n) (hn : n ≤ 4611686018427387904) : PCalls Tryd.prog 21 [.val (.int .i64 k), .val (.int .i64 n)] (.val (.int .i64 (k % n))) := by
  refine p_start Tryd.func21 Tryd.ntmps21 rfl rfl rfl fun S w => ?_
  have h1 := Int.tmod_lt_of_pos k hn0
  have h2 := Int.lt_tmod_of_pos k hn0
  have h3 := round_eq k n hn0
  repeat (first | refine awp_seq ?_ | refine thenA_normal ?_ | refine a_region ?_ | refine awp_ret ?_ | refine r_done ?_ | (refine r_id ?_; first | refine r_ev tab_ok rfl rfl rfl rfl (by first | exact trivial | exact ⟨by omega, by omega⟩ | omega | exact ⟨by omega, by omega, by omega, by omega⟩ | exact Nat.le_of_ble_eq_true rfl) rfl ?_ | refine r_rem rfl rfl rfl rfl rfl rfl (by omega) rfl ?_) | refine ret1 (by first | exact .inl rfl | exact .inr rfl) rfl rfl rfl ?_)
  generalize k.tmod n = t at h1 h2 h3 ⊢
  exact Sub.of_eq (by rw [← h3, Int.tmod_eq_emod_of_nonneg (by omega)])
def sgnL : List UInt8 := [33, 36, 37, 38, 42, 61, 62, 63, 94, 124, 126, 40, 41, 91, 93, 123, 125, 44, 58, 59, 60, 43, 46, 45, 64, 35]
def sgC (k : Nat) : UInt8 := sgnL.getD k 0
def sgtL : List Tk := [tkK 9 ⟨#[33]⟩, tkK 9 ⟨#[36]⟩, tkK 9 ⟨#[37]⟩, tkK 9 ⟨#[38]⟩, tkK 9 ⟨#[42]⟩, tkK 9 ⟨#[61]⟩, tkK 9 ⟨#[62]⟩, tkK 9 ⟨#[63]⟩, tkK 9 ⟨#[94]⟩, tkK 9 ⟨#[124]⟩, tkK 9 ⟨#[126]⟩, tkK 19 ⟨#[40]⟩, tkK 20 ⟨#[41]⟩, tkK 19 ⟨#[91]⟩, tkK 20 ⟨#[93]⟩, tkK 19 ⟨#[123]⟩, tkK 20 ⟨#[125]⟩, tkK 18 ⟨#[]⟩, tkK 16 ⟨#[]⟩, tkK 17 ⟨#[]⟩, tkK 9 ⟨#[60]⟩, tkK 9 ⟨#[43]⟩, tkK 9 ⟨#[46]⟩, tkK 9 ⟨#[45]⟩, tkK 9 ⟨#[64]⟩, tkK 9 ⟨#[35]⟩]
def sgK (k : Nat) : Tk := sgtL.getD k tk0
def sgS (ks : List Nat) : List UInt8 := ks.flatMap fun k => [sgC k, 32]
def sgT (ks : List Nat) : List Tk := ks.flatMap fun k => [sgK k, tkK 13 ⟨#[]⟩]
theorem sg_tok (rest : List Int) : ∀ k, k < 26 → tokL (bI (sgC k) :: 32 :: rest) = (sgK k, 32 :: rest)
  | 0, _ => by kernel_rfl
  | 1, _ => by kernel_rfl
  | 2, _ => by kernel_rfl
  | 3, _ => by kernel_rfl
  | 4, _ => by kernel_rfl
  | 5, _ => by kernel_rfl
  | 6, _ => by kernel_rfl
  | 7, _ => by kernel_rfl
  | 8, _ => by kernel_rfl
  | 9, _ => by kernel_rfl
  | 10, _ => by kernel_rfl
  | 11, _ => by kernel_rfl
  | 12, _ => by kernel_rfl
  | 13, _ => by kernel_rfl
  | 14, _ => by kernel_rfl
  | 15, _ => by kernel_rfl
  | 16, _ => by kernel_rfl
  | 17, _ => by kernel_rfl
  | 18, _ => by kernel_rfl
  | 19, _ => by kernel_rfl
  | 20, _ => by kernel_rfl
  | 21, _ => by kernel_rfl
  | 22, _ => by kernel_rfl
  | 23, _ => by kernel_rfl
  | 24, _ => by kernel_rfl
  | 25, _ => by kernel_rfl
  | k + 26, h => absurd h (by omega)
theorem sg_pl : ∀ k, k < 26 → plB (sgC k) = true ∧ 0 ≤ bI (sgC k) ∧ whiteF (bI (sgC k)) = false := by decide
theorem sg_white : ∀ ks : List Nat, (∀ k ∈ ks, k < 26) → whiteF (gt ((sgS ks).map bI) 0) = false
  | [], _ => rfl
  | k :: ks, h => (sg_pl k (h k (by simp))).2.2
theorem sg_toksL : ∀ ks : List Nat, (∀ k ∈ ks, k < 26) → toksL ((sgS ks).map bI) = sgT ks
  | [], _ => toksL_nil
  | k :: ks, h => by
    have hk := h k (by simp)
    have hks : ∀ k ∈ ks, k < 26 := fun j hj => h j (by simp [hj])
    have e : (sgS (k :: ks)).map bI = bI (sgC k) :: 32 :: (sgS ks).map bI := rfl
    have e2 : sgT (k :: ks) = sgK k :: tkK 13 ⟨#[]⟩ :: sgT ks := rfl
    rw [e, e2, toksL_at (l := bI (sgC k) :: 32 :: (sgS ks).map bI) (sg_pl k hk).2.1 (.inr (by show (32 : Int) ≠ 42; decide)), sg_tok _ k hk]
    show sgK k :: toksL ([32] ++ (sgS ks).map bI) = _
    rw [toksL_white 32 [] _ rfl (sg_white ks hks), sg_toksL ks hks]
theorem sg_toks (ks : List Nat) (h : ∀ k ∈ ks, k < 26) : toks ⟨(sgS ks).toArray⟩ = sgT ks := by
  rw [toks, read_pl, ← toks_L, sg_toksL ks h]
  rw [List.all_eq_true]
  intro c hc
  rw [sgS, List.mem_flatMap] at hc
  obtain ⟨k, hk, hc⟩ := hc
  simp only [List.mem_cons, List.not_mem_nil, or_false] at hc
  rcases hc with rfl | rfl
  · exact (sg_pl k (h k hk)).1
  · rfl
def kyF (l : List Int) : List Nat := l.map fun z => (z % 26).toNat
theorem ky_lt (l : List Int) : ∀ k ∈ kyF l, k < 26 := by
  intro k hk
  rw [kyF, List.mem_map] at hk
  obtain ⟨z, _, rfl⟩ := hk
  omega
theorem sgS_len : ∀ ks : List Nat, (sgS ks).length = 2 * ks.length
  | [] => rfl
  | k :: ks => by
    have : sgS (k :: ks) = sgC k :: 32 :: sgS ks := rfl
    rw [this, List.length_cons, List.length_cons, sgS_len ks, List.length_cons]; omega
theorem sgT_len : ∀ ks : List Nat, (sgT ks).length = 2 * ks.length
  | [] => rfl
  | k :: ks => by
    have : sgT (k :: ks) = sgK k :: tkK 13 ⟨#[]⟩ :: sgT ks := rfl
    rw [this, List.length_cons, List.length_cons, sgT_len ks, List.length_cons]; omega
theorem r_scutE {P : Program} {tab : List (Nat × TE)} {ops : Array Oper} {N : Nat} {K : AS → Prop} {r : List Oper} {fo fo' : Option (List Nat)} {M : List AB} {F : List (Nat × AV)} {dt : Tmp} {o : Oper} (ht : TyTab P tab) {T : Nat} {x : Operand} {lo hi : Option Operand} {a b : Option Int} {s e : ByteArray} (hg : o.guard = none) (ho : o.op = .slice T x lo hi none) (hT : kindAt tab T = some .str) (hx : aval (look F) x = .val (.string s)) (hlo : cutLo (aval (look F)) lo = some a) (hhi : cutLo (aval (look F)) hi = some b)
    (hdd : o.dst = some dt) (hd : dstB o.dst N = true) (hb : 0 ≤ a.getD 0 ∧ a.getD 0 ≤ b.getD s.size ∧ b.getD s.size ≤ (s.size : Int)) (he : s.extract (a.getD 0).toNat (b.getD s.size).toNat = e) (hp : popF fo 0 = some fo') (k : RunX P ops N K r fo' M ((dt, .val (.string e)) :: F)) : RunX P ops N K (o :: r) fo M F := by
  subst he
  exact r_scut ht hg ho hT hx hlo hhi hdd hd hb hp k
def iD' (n : Int) : D := .val (.int .i64 n)
theorem cat2 (a : List UInt8) (b c : UInt8) : (⟨a.toArray⟩ : ByteArray) ++ (⟨#[b]⟩ : ByteArray) ++ (⟨#[c]⟩ : ByteArray) = ⟨(a ++ [b, c]).toArray⟩ := by
  rw [show (⟨#[b]⟩ : ByteArray) = ⟨[b].toArray⟩ from rfl, show (⟨#[c]⟩ : ByteArray) = ⟨[c].toArray⟩ from rfl, bytes_cat, bytes_cat, List.append_assoc]
  rfl
set_option maxHeartbeats 16000000 in
theorem lawSigns (l : List Int) (hl : l.length ≤ 9223372036854775807) : PCalls Tryd.prog 10 [.sl 1 (l.map iD')] (.val (.bool true)) := by
  refine p_start Tryd.func10 Tryd.ntmps10 rfl rfl rfl fun S w => ?_
  have hlm : (l.map iD').length = l.length := List.length_map _
  have hsz : (⟨sgnL.toArray⟩ : ByteArray).size = 26 := rfl
  repeat (first | refine awp_seq ?_ | refine thenA_normal ?_ | refine a_region ?_ | refine r_done ?_ | (refine r_id ?_; first | refine r_len tab_ok rfl rfl rfl rfl rfl rfl rfl ?_ | refine r_ev tab_ok rfl rfl rfl rfl (by first | exact trivial | exact ⟨by omega, by omega⟩ | omega | exact ⟨by omega, by omega, by omega, by omega⟩ | exact Nat.le_of_ble_eq_true rfl) rfl ?_))
  refine awp_cond_p rfl (fun h => ?_) (fun h => ?_)
  · repeat (first | refine awp_seq ?_ | refine a_region ?_)
    refine r_call awake2_ok call12 rfl rfl trivial rfl rfl rfl rfl ?_
    repeat (first | refine thenA_normal ?_ | refine awp_ret ?_ | refine thenA_ret ?_ | refine r_done ?_ | (refine r_id ?_; first | refine r_ev tab_ok rfl rfl rfl rfl (by first | exact trivial | exact ⟨by omega, by omega⟩ | omega | exact ⟨by omega, by omega, by omega, by omega⟩ | exact Nat.le_of_ble_eq_true rfl) rfl ?_) | refine ret1 (by first | exact .inl rfl | exact .inr rfl) rfl rfl rfl ?_)
    exact Sub.refl _
  repeat (first | refine awp_seq ?_ | refine thenA_normal ?_ | refine awp_block ?_ | refine a_region ?_ | refine awp_skip ?_ | refine r_done ?_ | (refine r_id ?_; first | refine r_ev tab_ok rfl rfl rfl rfl (by first | exact trivial | exact ⟨by omega, by omega⟩ | omega | exact ⟨by omega, by omega, by omega, by omega⟩ | exact Nat.le_of_ble_eq_true rfl) rfl ?_))
  refine a_loop (σ := {i : Nat // i ≤ l.length}) (fun x => [.row 0 33 6 ((sgT (kyF (l.take x.1))).map tD)]) (fun x => [(0, .sl 1 (l.map iD')), (3, .val (.string ⟨sgnL.toArray⟩)), (4, .val (.string ⟨(sgS (kyF (l.take x.1))).toArray⟩)), (5, .row 0 0), (6, .val (.int .i64 x.1))]) (fun x => l.length - x.1) ⟨0, Nat.zero_le _⟩ (fits_conv (by repeat' first | exact trivial | exact rfl | (rw [List.map_append]; first | done | rfl) | exact c_sub rfl (Sub.refl _) rfl | exact c_nil rfl rfl | exact c_thaw rfl rfl rfl | exact c_row rfl rfl rfl | exact c_row rfl rfl (by rw [List.map_append]; first | done | rfl) | exact c_ptr rfl rfl rfl rfl | exact Or.inl ⟨c_sub rfl (Sub.refl _) rfl, c_ptr rfl rfl rfl rfl⟩ | exact c_alt rfl rfl rfl rfl | exact c_ro rfl rfl | exact c_eo rfl rfl | exact c_sub rfl (Sub.altl _ _) rfl | exact c_sub rfl (Sub.nil _) rfl | refine ⟨_, _, rfl, ?_, ?_⟩ | apply And.intro) (by repeat' first | exact trivial | exact rfl | (rw [List.map_append]; first | done | rfl) | exact c_sub rfl (Sub.refl _) rfl | exact c_nil rfl rfl | exact c_thaw rfl rfl rfl | exact c_row rfl rfl rfl | exact c_row rfl rfl (by rw [List.map_append]; first | done | rfl) | exact c_ptr rfl rfl rfl rfl | exact Or.inl ⟨c_sub rfl (Sub.refl _) rfl, c_ptr rfl rfl rfl rfl⟩ | exact c_alt rfl rfl rfl rfl | exact c_ro rfl rfl | exact c_eo rfl rfl | exact c_sub rfl (Sub.altl _ _) rfl | exact c_sub rfl (Sub.nil _) rfl | refine ⟨_, _, rfl, ?_, ?_⟩ | apply And.intro)) ?_
  rintro ⟨i, hi⟩
  dsimp only
  have hS : (⟨(sgS (kyF (l.take i))).toArray⟩ : ByteArray).size ≤ 120 := by
    rw [sz_list, sgS_len, kyF, List.length_map, List.length_take]; omega
  have hT : ((sgT (kyF (l.take i))).map tD).length ≤ 120 := by
    rw [List.length_map, sgT_len, kyF, List.length_map, List.length_take]; omega
  have hT2 := hT
  rw [List.length_map] at hT2
  repeat (first | refine awp_seq ?_ | refine thenA_normal ?_ | refine a_region ?_ | refine r_done ?_ | (refine r_id ?_; first | refine r_len tab_ok rfl rfl rfl rfl rfl rfl rfl ?_ | refine r_ev tab_ok rfl rfl rfl rfl (by first | exact trivial | exact ⟨by omega, by omega⟩ | omega | exact ⟨by omega, by omega, by omega, by omega⟩ | exact Nat.le_of_ble_eq_true rfl) rfl ?_))
  refine awp_cond_p rfl (fun hlt => ?_) (fun hge => ?_)
  · have hi' : i < l.length := by omega
    have hky : kyF (l.take (i + 1)) = kyF (l.take i) ++ [(l[((i : Nat) : Int).toNat]'(by simpa using hi') % 26).toNat] := by
      have e : l.take (i + 1) = l.take i ++ [l[i]] := by rw [List.take_add_one, List.getElem?_eq_getElem hi']; rfl
      rw [e, kyF, kyF, List.map_append]
      rfl
    repeat (first | refine awp_seq ?_ | refine awp_block ?_ | refine a_region ?_ | refine awp_skip ?_ | (refine r_id ?_; first | refine r_ev tab_ok rfl rfl rfl rfl (by first | exact trivial | exact ⟨by omega, by omega⟩ | omega | exact ⟨by omega, by omega, by omega, by omega⟩ | exact Nat.le_of_ble_eq_true rfl) rfl ?_ | refine r_idx tab_ok rfl rfl rfl rfl rfl rfl rfl (by first | exact ⟨by omega, by omega⟩ | (simp; omega)) rfl rfl ?_))
    refine r_call (round_ok (l[((i : Nat) : Int).toNat]'(by simpa using hi')) 26 (by decide) (by decide)) call21 rfl rfl ⟨Sub.refl _, Sub.refl _, trivial⟩ rfl rfl rfl rfl ?_
    have hk : 0 ≤ (l[((i : Nat) : Int).toNat]'(by simpa using hi')) % 26 ∧ (l[((i : Nat) : Int).toNat]'(by simpa using hi')) % 26 < 26 := by omega
    generalize (l[((i : Nat) : Int).toNat]'(by simpa using hi')) % 26 = k at hky hk ⊢
    have hkk : k = 0 ∨ k = 1 ∨ k = 2 ∨ k = 3 ∨ k = 4 ∨ k = 5 ∨ k = 6 ∨ k = 7 ∨ k = 8 ∨ k = 9 ∨ k = 10 ∨ k = 11 ∨ k = 12 ∨ k = 13 ∨ k = 14 ∨ k = 15 ∨ k = 16 ∨ k = 17 ∨ k = 18 ∨ k = 19 ∨ k = 20 ∨ k = 21 ∨ k = 22 ∨ k = 23 ∨ k = 24 ∨ k = 25 := by omega
    have hsn : ∀ k, sgS (kyF (l.take i) ++ [k]) = sgS (kyF (l.take i)) ++ [sgC k, 32] := fun k => by rw [sgS, List.flatMap_append]; rfl
    have htn : ∀ k, sgT (kyF (l.take i) ++ [k]) = sgT (kyF (l.take i)) ++ [sgK k, tkK 13 ⟨#[]⟩] := fun k => by rw [sgT, List.flatMap_append]; rfl
    have hsx : (⟨[sgC k.toNat].toArray⟩ : ByteArray).size = 1 := rfl
    have hsy : ((⟨(sgS (kyF (l.take i))).toArray⟩ : ByteArray) ++ (⟨[sgC k.toNat].toArray⟩ : ByteArray)).size = (⟨(sgS (kyF (l.take i))).toArray⟩ : ByteArray).size + 1 := by rw [ByteArray.size_append]; rfl
    have hs32 : (⟨#[32]⟩ : ByteArray).size = 1 := rfl
    have hcut : (⟨sgnL.toArray⟩ : ByteArray).extract k.toNat (k + 1).toNat = ⟨[sgC k.toNat].toArray⟩ := by rcases hkk with rfl | rfl | rfl | rfl | rfl | rfl | rfl | rfl | rfl | rfl | rfl | rfl | rfl | rfl | rfl | rfl | rfl | rfl | rfl | rfl | rfl | rfl | rfl | rfl | rfl | rfl <;> rfl
    repeat (first | refine awp_seq ?_ | refine a_region ?_ | refine r_done ?_ | (refine r_id ?_; first | refine r_ev tab_ok rfl rfl rfl rfl (by first | exact trivial | exact ⟨by omega, by omega⟩ | omega | exact ⟨by omega, by omega, by omega, by omega⟩ | exact Nat.le_of_ble_eq_true rfl) rfl ?_))
    refine r_scutE (e := ⟨[sgC k.toNat].toArray⟩) tab_ok rfl rfl rfl rfl rfl rfl rfl rfl (by show (0 : Int) ≤ k ∧ k ≤ k + 1 ∧ k + 1 ≤ ((⟨sgnL.toArray⟩ : ByteArray).size : Int); omega) hcut rfl ?_
    repeat (first | refine awp_seq ?_ | refine a_region ?_ | refine r_done ?_ | (refine r_id ?_; first | refine r_ev tab_ok rfl rfl rfl rfl (by first | exact trivial | exact ⟨by omega, by omega⟩ | omega | exact ⟨by omega, by omega, by omega, by omega⟩ | exact Nat.le_of_ble_eq_true rfl) rfl ?_))
    refine r_scutE (e := ⟨[sgC k.toNat].toArray⟩) tab_ok rfl rfl rfl rfl rfl rfl rfl rfl (by show (0 : Int) ≤ k ∧ k ≤ k + 1 ∧ k + 1 ≤ ((⟨sgnL.toArray⟩ : ByteArray).size : Int); omega) hcut rfl ?_
    repeat (first | refine awp_seq ?_ | refine thenA_normal ?_ | refine awp_block ?_ | refine a_region ?_ | refine r_done ?_ | (refine r_id ?_; first | refine r_ev tab_ok rfl rfl rfl rfl (by first | exact trivial | exact ⟨by omega, by omega⟩ | omega | exact ⟨by omega, by omega, by omega, by omega⟩ | exact Nat.le_of_ble_eq_true rfl) rfl ?_ | refine r_wr tab_ok rfl rfl rfl rfl rfl ?_ | refine r_st tab_ok rfl rfl rfl rfl ?_ | refine r_build tab_ok rfl rfl rfl rfl rfl rfl ?_))
    rcases hkk with rfl | rfl | rfl | rfl | rfl | rfl | rfl | rfl | rfl | rfl | rfl | rfl | rfl | rfl | rfl | rfl | rfl | rfl | rfl | rfl | rfl | rfl | rfl | rfl | rfl | rfl
    all_goals
      repeat (first | refine awp_seq ?_ | refine thenA_normal ?_ | refine a_region ?_ | refine awp_skip ?_ | refine r_done ?_ | (refine r_id ?_; first | refine r_ev tab_ok rfl rfl rfl rfl (by first | exact trivial | exact ⟨by omega, by omega⟩ | omega | exact ⟨by omega, by omega, by omega, by omega⟩ | exact Nat.le_of_ble_eq_true rfl) rfl ?_ | refine r_ld tab_ok rfl rfl rfl rfl rfl ?_ | refine r_st tab_ok rfl rfl rfl rfl ?_ | refine r_build tab_ok rfl rfl rfl rfl rfl rfl ?_ | refine r_built tab_ok rfl rfl rfl rfl rfl rfl rfl rfl rfl ?_ | refine r_append tab_ok rfl rfl rfl rfl rfl rfl rfl rfl rfl (by first | omega | (simp; omega)) rfl ?_) | refine awp_cond_t rfl ?_ | refine awp_cond_f rfl ?_)
      refine ⟨⟨i + 1, hi'⟩, by dsimp only; omega, ?_⟩
      dsimp only
      rw [hky, hsn, htn, List.map_append, ← cat2]
      exact fits_tr (s' := ⟨[.row 0 33 6 ((sgT (kyF (l.take i))).map tD ++ [tD (sgK (Int.toNat _)), tD (tkK 13 ⟨#[]⟩)]), .gone], [(0, .sl 1 (l.map iD')), (3, .val (.string ⟨sgnL.toArray⟩)), (4, .val (.string ((⟨(sgS (kyF (l.take i))).toArray⟩ : ByteArray) ++ (⟨#[sgC (Int.toNat _)]⟩ : ByteArray) ++ (⟨#[32]⟩ : ByteArray)))), (5, .row 0 0), (6, .val (.int .i64 (i + 1 : Nat)))]⟩) (fits_conv (by repeat' first | exact trivial | exact rfl | (rw [List.map_append]; first | done | rfl) | exact c_sub rfl (Sub.refl _) rfl | exact c_nil rfl rfl | exact c_thaw rfl rfl rfl | exact c_row rfl rfl rfl | exact c_row rfl rfl (by rw [List.map_append]; first | done | rfl) | exact c_ptr rfl rfl rfl rfl | exact Or.inl ⟨c_sub rfl (Sub.refl _) rfl, c_ptr rfl rfl rfl rfl⟩ | exact c_alt rfl rfl rfl rfl | exact c_ro rfl rfl | exact c_eo rfl rfl | exact c_sub rfl (Sub.altl _ _) rfl | exact c_sub rfl (Sub.nil _) rfl | refine ⟨_, _, rfl, ?_, ?_⟩ | apply And.intro) (by repeat' first | exact trivial | exact rfl | (rw [List.map_append]; first | done | rfl) | exact c_sub rfl (Sub.refl _) rfl | exact c_nil rfl rfl | exact c_thaw rfl rfl rfl | exact c_row rfl rfl rfl | exact c_row rfl rfl (by rw [List.map_append]; first | done | rfl) | exact c_ptr rfl rfl rfl rfl | exact Or.inl ⟨c_sub rfl (Sub.refl _) rfl, c_ptr rfl rfl rfl rfl⟩ | exact c_alt rfl rfl rfl rfl | exact c_ro rfl rfl | exact c_eo rfl rfl | exact c_sub rfl (Sub.altl _ _) rfl | exact c_sub rfl (Sub.nil _) rfl | refine ⟨_, _, rfl, ?_, ?_⟩ | apply And.intro)) (fits_drop 1 rfl rfl (by repeat' first | exact trivial | exact Sub.refl _ | exact rfl | apply And.intro))
  · have hie : i = l.length := by omega
    subst hie
    rw [List.take_length] at hS hT ⊢
    have ht := sg_toks (kyF l) (ky_lt l)
    repeat (first | refine awp_seq ?_ | refine awp_exit ?_)
    refine awp_fits (s' := ⟨[.gone], [(4, .val (.string ⟨(sgS (kyF l)).toArray⟩)), (5, .sl 6 ((sgT (kyF l)).map tD))]⟩) (fits_conv (by repeat' first | exact trivial | exact rfl | (rw [List.map_append]; first | done | rfl) | exact c_sub rfl (Sub.refl _) rfl | exact c_nil rfl rfl | exact c_thaw rfl rfl rfl | exact c_row rfl rfl rfl | exact c_row rfl rfl (by rw [List.map_append]; first | done | rfl) | exact c_ptr rfl rfl rfl rfl | exact Or.inl ⟨c_sub rfl (Sub.refl _) rfl, c_ptr rfl rfl rfl rfl⟩ | exact c_alt rfl rfl rfl rfl | exact c_ro rfl rfl | exact c_eo rfl rfl | exact c_sub rfl (Sub.altl _ _) rfl | exact c_sub rfl (Sub.nil _) rfl | refine ⟨_, _, rfl, ?_, ?_⟩ | apply And.intro) ⟨c_sub rfl (Sub.refl _) rfl, c_thaw rfl rfl rfl, trivial⟩) ?_
    repeat (first | refine a_region ?_ | (refine r_id ?_; first | refine r_ev tab_ok rfl rfl rfl rfl (by first | exact trivial | exact ⟨by omega, by omega⟩ | omega | exact ⟨by omega, by omega, by omega, by omega⟩ | exact Nat.le_of_ble_eq_true rfl) rfl ?_))
    refine r_call (show PCalls Tryd.prog 19 [.val (.string ⟨(sgS (kyF l)).toArray⟩)] (.sl 6 ((sgT (kyF l)).map tD)) by rw [← ht]; exact all2_ok _ (by omega)) call19 rfl rfl ⟨Sub.refl _, trivial⟩ rfl rfl rfl rfl ?_
    rw [List.length_map] at hT
    repeat (first | (refine r_id ?_; first | refine r_ev tab_ok rfl rfl rfl rfl (by first | exact trivial | exact ⟨by omega, by omega⟩ | omega | exact ⟨by omega, by omega, by omega, by omega⟩ | exact Nat.le_of_ble_eq_true rfl) rfl ?_))
    refine r_call (eqtoks_self (sgT (kyF l)) (by omega)) call14 rfl rfl ⟨Sub.refl _, Sub.refl _, trivial⟩ rfl rfl rfl rfl ?_
    repeat (first | (refine r_id ?_; first | refine r_ev tab_ok rfl rfl rfl rfl (by first | exact trivial | exact ⟨by omega, by omega⟩ | omega | exact ⟨by omega, by omega, by omega, by omega⟩ | exact Nat.le_of_ble_eq_true rfl) rfl ?_) | refine r_g rfl rfl rfl ?_)
    refine r_call awake2_ok call12 rfl rfl trivial rfl rfl rfl rfl ?_
    repeat (first | refine thenA_normal ?_ | refine awp_ret ?_ | refine r_done ?_ | (refine r_id ?_; first | refine r_ev tab_ok rfl rfl rfl rfl (by first | exact trivial | exact ⟨by omega, by omega⟩ | omega | exact ⟨by omega, by omega, by omega, by omega⟩ | exact Nat.le_of_ble_eq_true rfl) rfl ?_ | refine r_pick_t rfl rfl rfl rfl rfl rfl rfl ?_) | refine ret1 (by first | exact .inl rfl | exact .inr rfl) rfl rfl rfl ?_)
    exact Sub.refl _
end Go.Proofs.YtbjinibmkkmhkaaDoor
