/- AgentShows, walked. -/
import Derived.Test.YtiolnmfaeenlmaaGreatDoorRl
namespace Go.Proofs.YtiolnmfaeenlmaaGreatDoor
open Go Go.RowKit
set_option maxRecDepth 20000

def tagL : List ByteArray := [⟨#[104, 116, 109, 108]⟩, ⟨#[98, 111, 100, 121]⟩, ⟨#[100, 105, 118]⟩, ⟨#[112]⟩, ⟨#[111, 108]⟩, ⟨#[117, 108]⟩, ⟨#[109, 101, 110, 117]⟩, ⟨#[104, 49]⟩, ⟨#[104, 50]⟩, ⟨#[104, 51]⟩, ⟨#[115, 101, 99, 116, 105, 111, 110]⟩, ⟨#[108, 105]⟩, ⟨#[104, 101, 97, 100]⟩, ⟨#[115, 116, 121, 108, 101]⟩, ⟨#[115, 99, 114, 105, 112, 116]⟩, ⟨#[116, 105, 116, 108, 101]⟩, ⟨#[116, 101, 109, 112, 108, 97, 116, 101]⟩, ⟨#[113]⟩, ⟨#[97]⟩, ⟨#[115, 112, 97, 110]⟩]
def wantL : List ByteArray := [⟨#[98, 108, 111, 99, 107]⟩, ⟨#[98, 108, 111, 99, 107]⟩, ⟨#[98, 108, 111, 99, 107]⟩, ⟨#[98, 108, 111, 99, 107]⟩, ⟨#[98, 108, 111, 99, 107]⟩, ⟨#[98, 108, 111, 99, 107]⟩, ⟨#[98, 108, 111, 99, 107]⟩, ⟨#[98, 108, 111, 99, 107]⟩, ⟨#[98, 108, 111, 99, 107]⟩, ⟨#[98, 108, 111, 99, 107]⟩, ⟨#[98, 108, 111, 99, 107]⟩, ⟨#[108, 105, 115, 116, 45, 105, 116, 101, 109]⟩, ⟨#[110, 111, 110, 101]⟩, ⟨#[110, 111, 110, 101]⟩, ⟨#[110, 111, 110, 101]⟩, ⟨#[110, 111, 110, 101]⟩, ⟨#[110, 111, 110, 101]⟩, ⟨#[]⟩, ⟨#[]⟩, ⟨#[]⟩]
def dspS : ByteArray := ⟨#[100, 105, 115, 112, 108, 97, 121]⟩
/-- A rule with one declaration of one node. -/
structure R1 where
  at_ : ByteArray
  pre : List Nd
  blk : Bool
  nm : ByteArray
  v : Nd
  im : Bool
def r1D (r : R1) : D := .ag [.val (.string r.at_), .sl 7 (r.pre.map nF), .val (.bool r.blk), .sl 3 [.ag [.val (.string r.nm), .sl 7 [nF r.v], .val (.bool r.im)]]]
def R1.rl (r : R1) : Rl := ⟨r.at_, r.pre, r.blk, [⟨r.nm, [r.v], r.im⟩]⟩
def stN (tag : ByteArray) (r : R1) (g : ByteArray) (m : Nd) : ByteArray := if m.tok.kind = 1 ∧ m.tok.text = tag ∧ r.nm = dspS then r.v.tok.text else g
def inO (tag : ByteArray) (r : R1) (l : List Nd) (g : ByteArray) : ByteArray := l.foldl (stN tag r) g
def shO (tag : ByteArray) : List R1 → ByteArray → ByteArray
  | [], g => g
  | r :: rs, g => if g = ⟨#[]⟩ then shO tag rs (inO tag r r.pre g) else g
def ag1R0 : R1 := ⟨⟨#[]⟩, [lf ⟨1, ⟨#[104, 116, 109, 108]⟩, 0, false, false, false⟩, lf ⟨18, ⟨#[]⟩, 0, false, false, false⟩, lf ⟨13, ⟨#[]⟩, 0, false, false, false⟩, lf ⟨1, ⟨#[98, 111, 100, 121]⟩, 0, false, false, false⟩, lf ⟨18, ⟨#[]⟩, 0, false, false, false⟩, lf ⟨13, ⟨#[]⟩, 0, false, false, false⟩, lf ⟨1, ⟨#[100, 105, 118]⟩, 0, false, false, false⟩, lf ⟨18, ⟨#[]⟩, 0, false, false, false⟩, lf ⟨13, ⟨#[]⟩, 0, false, false, false⟩, lf ⟨1, ⟨#[112]⟩, 0, false, false, false⟩, lf ⟨18, ⟨#[]⟩, 0, false, false, false⟩, lf ⟨13, ⟨#[]⟩, 0, false, false, false⟩, lf ⟨1, ⟨#[111, 108]⟩, 0, false, false, false⟩, lf ⟨18, ⟨#[]⟩, 0, false, false, false⟩, lf ⟨13, ⟨#[]⟩, 0, false, false, false⟩, lf ⟨1, ⟨#[117, 108]⟩, 0, false, false, false⟩, lf ⟨18, ⟨#[]⟩, 0, false, false, false⟩, lf ⟨13, ⟨#[]⟩, 0, false, false, false⟩, lf ⟨1, ⟨#[109, 101, 110, 117]⟩, 0, false, false, false⟩, lf ⟨18, ⟨#[]⟩, 0, false, false, false⟩, lf ⟨13, ⟨#[]⟩, 0, false, false, false⟩, lf ⟨1, ⟨#[104, 49]⟩, 0, false, false, false⟩, lf ⟨18, ⟨#[]⟩, 0, false, false, false⟩, lf ⟨13, ⟨#[]⟩, 0, false, false, false⟩, lf ⟨1, ⟨#[104, 50]⟩, 0, false, false, false⟩, lf ⟨18, ⟨#[]⟩, 0, false, false, false⟩, lf ⟨13, ⟨#[]⟩, 0, false, false, false⟩, lf ⟨1, ⟨#[104, 51]⟩, 0, false, false, false⟩, lf ⟨18, ⟨#[]⟩, 0, false, false, false⟩, lf ⟨13, ⟨#[]⟩, 0, false, false, false⟩, lf ⟨1, ⟨#[115, 101, 99, 116, 105, 111, 110]⟩, 0, false, false, false⟩], true, ⟨#[100, 105, 115, 112, 108, 97, 121]⟩, lf ⟨1, ⟨#[98, 108, 111, 99, 107]⟩, 0, false, false, false⟩, false⟩
def ag1R1 : R1 := ⟨⟨#[]⟩, [lf ⟨1, ⟨#[108, 105]⟩, 0, false, false, false⟩], true, ⟨#[100, 105, 115, 112, 108, 97, 121]⟩, lf ⟨1, ⟨#[108, 105, 115, 116, 45, 105, 116, 101, 109]⟩, 0, false, false, false⟩, false⟩
def ag1R2 : R1 := ⟨⟨#[]⟩, [lf ⟨1, ⟨#[104, 101, 97, 100]⟩, 0, false, false, false⟩, lf ⟨18, ⟨#[]⟩, 0, false, false, false⟩, lf ⟨13, ⟨#[]⟩, 0, false, false, false⟩, lf ⟨1, ⟨#[115, 116, 121, 108, 101]⟩, 0, false, false, false⟩, lf ⟨18, ⟨#[]⟩, 0, false, false, false⟩, lf ⟨13, ⟨#[]⟩, 0, false, false, false⟩, lf ⟨1, ⟨#[115, 99, 114, 105, 112, 116]⟩, 0, false, false, false⟩, lf ⟨18, ⟨#[]⟩, 0, false, false, false⟩, lf ⟨13, ⟨#[]⟩, 0, false, false, false⟩, lf ⟨1, ⟨#[116, 105, 116, 108, 101]⟩, 0, false, false, false⟩, lf ⟨18, ⟨#[]⟩, 0, false, false, false⟩, lf ⟨13, ⟨#[]⟩, 0, false, false, false⟩, lf ⟨1, ⟨#[116, 101, 109, 112, 108, 97, 116, 101]⟩, 0, false, false, false⟩], true, ⟨#[100, 105, 115, 112, 108, 97, 121]⟩, lf ⟨1, ⟨#[110, 111, 110, 101]⟩, 0, false, false, false⟩, false⟩
def ag1R3 : R1 := ⟨⟨#[]⟩, [lf ⟨1, ⟨#[111, 108]⟩, 0, false, false, false⟩], true, ⟨#[108, 105, 115, 116, 45, 115, 116, 121, 108, 101, 45, 116, 121, 112, 101]⟩, lf ⟨1, ⟨#[100, 101, 99, 105, 109, 97, 108]⟩, 0, false, false, false⟩, false⟩
def ag1R4 : R1 := ⟨⟨#[]⟩, [lf ⟨1, ⟨#[117, 108]⟩, 0, false, false, false⟩, lf ⟨18, ⟨#[]⟩, 0, false, false, false⟩, lf ⟨13, ⟨#[]⟩, 0, false, false, false⟩, lf ⟨1, ⟨#[109, 101, 110, 117]⟩, 0, false, false, false⟩], true, ⟨#[108, 105, 115, 116, 45, 115, 116, 121, 108, 101, 45, 116, 121, 112, 101]⟩, lf ⟨1, ⟨#[100, 105, 115, 99]⟩, 0, false, false, false⟩, false⟩
def ag1R5 : R1 := ⟨⟨#[]⟩, [lf ⟨1, ⟨#[117, 108]⟩, 0, false, false, false⟩, lf ⟨13, ⟨#[]⟩, 0, false, false, false⟩, lf ⟨1, ⟨#[117, 108]⟩, 0, false, false, false⟩, lf ⟨18, ⟨#[]⟩, 0, false, false, false⟩, lf ⟨13, ⟨#[]⟩, 0, false, false, false⟩, lf ⟨1, ⟨#[111, 108]⟩, 0, false, false, false⟩, lf ⟨13, ⟨#[]⟩, 0, false, false, false⟩, lf ⟨1, ⟨#[117, 108]⟩, 0, false, false, false⟩], true, ⟨#[108, 105, 115, 116, 45, 115, 116, 121, 108, 101, 45, 116, 121, 112, 101]⟩, lf ⟨1, ⟨#[99, 105, 114, 99, 108, 101]⟩, 0, false, false, false⟩, false⟩
def ag1R6 : R1 := ⟨⟨#[]⟩, [lf ⟨1, ⟨#[113]⟩, 0, false, false, false⟩, lf ⟨16, ⟨#[]⟩, 0, false, false, false⟩, lf ⟨16, ⟨#[]⟩, 0, false, false, false⟩, lf ⟨1, ⟨#[98, 101, 102, 111, 114, 101]⟩, 0, false, false, false⟩], true, ⟨#[99, 111, 110, 116, 101, 110, 116]⟩, lf ⟨1, ⟨#[111, 112, 101, 110, 45, 113, 117, 111, 116, 101]⟩, 0, false, false, false⟩, false⟩
def ag1R7 : R1 := ⟨⟨#[]⟩, [lf ⟨1, ⟨#[113]⟩, 0, false, false, false⟩, lf ⟨16, ⟨#[]⟩, 0, false, false, false⟩, lf ⟨16, ⟨#[]⟩, 0, false, false, false⟩, lf ⟨1, ⟨#[97, 102, 116, 101, 114]⟩, 0, false, false, false⟩], true, ⟨#[99, 111, 110, 116, 101, 110, 116]⟩, lf ⟨1, ⟨#[99, 108, 111, 115, 101, 45, 113, 117, 111, 116, 101]⟩, 0, false, false, false⟩, false⟩
def ag1R : List R1 := [ag1R0, ag1R1, ag1R2, ag1R3, ag1R4, ag1R5, ag1R6, ag1R7]
theorem ag1_eq : agR = ag1R.map R1.rl := rfl
theorem sh_at : ∀ i, i < 20 → shO (tagL.getD i ⟨#[]⟩) ag1R ⟨#[]⟩ = wantL.getD i ⟨#[]⟩
  | 0, _ => by kernel_rfl
  | 1, _ => by kernel_rfl
  | 2, _ => by kernel_rfl
  | 3, _ => by kernel_rfl
  | 4, _ => by kernel_rfl
  | 5, _ => by kernel_rfl
  | 6, _ => by kernel_rfl
  | 7, _ => by kernel_rfl
  | 8, _ => by kernel_rfl
  | 9, _ => by kernel_rfl
  | 10, _ => by kernel_rfl
  | 11, _ => by kernel_rfl
  | 12, _ => by kernel_rfl
  | 13, _ => by kernel_rfl
  | 14, _ => by kernel_rfl
  | 15, _ => by kernel_rfl
  | 16, _ => by kernel_rfl
  | 17, _ => by kernel_rfl
  | 18, _ => by kernel_rfl
  | 19, _ => by kernel_rfl
  | i + 20, h => absurd h (by omega)
structure ShO (tag : ByteArray) (l : List R1) where
  j : Nat
  g : ByteArray
  hj : j ≤ l.length
  eq : shO tag (l.drop j) g = shO tag l ⟨#[]⟩
structure ShI (tag : ByteArray) (r : R1) (g0 : ByteArray) where
  n : Nat
  g : ByteArray
  hn : n ≤ r.pre.length
  eq : inO tag r (r.pre.drop n) g = inO tag r r.pre g0
theorem drop_at {α : Type} {l : List α} {j : Nat} (h : j < l.length) : l.drop j = l[j] :: l.drop (j + 1) := List.drop_eq_getElem_cons h
set_option maxHeartbeats 8000000 in
theorem lawShows (k : Int) : PCalls Tryz.prog 10 [.val (.int .i64 k)] (.val (.bool true)) := by
  refine p_start Tryz.func10 Tryz.ntmps10 rfl rfl rfl fun S w => ?_
  have h1 := Int.tmod_lt_of_pos k (show (0 : Int) < 20 by decide)
  have h2 := Int.lt_tmod_of_pos k (show (0 : Int) < 20 by decide)
  have h3 := round_eq k 20 (by decide)
  obtain ⟨i, hi⟩ : ∃ i : Nat, k % 20 = i := ⟨(k % 20).toNat, by omega⟩
  have hi20 : i < 20 := by omega
  rw [hi, Int.tmod_eq_emod_of_nonneg (by omega)] at h3
  have hsh := sh_at i hi20
  have hgi : tagL.getD i ⟨#[]⟩ = tagL[i]'(by have : tagL.length = 20 := rfl; omega) := by rw [List.getD_eq_getElem?_getD, List.getElem?_eq_getElem (by have : tagL.length = 20 := rfl; omega)]; rfl
  have hwi : wantL.getD i ⟨#[]⟩ = wantL[i]'(by have : wantL.length = 20 := rfl; omega) := by rw [List.getD_eq_getElem?_getD, List.getElem?_eq_getElem (by have : wantL.length = 20 := rfl; omega)]; rfl
  have hr : PCalls Tryz.prog 24 [] (.sl 4 (ag1R.map r1D)) := by
    have := agRules_ok
    rw [ag1_eq, List.map_map] at this
    exact this
  have hz : ∀ r ∈ ag1R, r.pre.length ≤ 1000 := by decide
  have h8 : ag1R.length ≤ 8 := by decide
  have htl : (tagL.map sF).length = 20 := rfl
  have hwl : (wantL.map sF).length = 20 := rfl
  have ei : ((i : Nat) : Int).toNat = i := Int.toNat_natCast i
  have hit : i < tagL.length := hi20
  have hiw : i < wantL.length := hi20
  rw [hgi, hwi] at hsh
  generalize ag1R = l at hsh hr hz h8
  have hlm : (l.map r1D).length = l.length := List.length_map _
  obtain ⟨tag, htag⟩ : ∃ tag, tagL[i]'hit = tag := ⟨_, rfl⟩
  rw [htag] at hsh
  repeat (first | refine awp_seq ?_ | refine a_region ?_ | refine r_done ?_ | (refine r_id ?_; first | refine r_ev tab_ok rfl rfl rfl rfl byE rfl ?_ | refine r_rem rfl rfl rfl rfl rfl rfl (by omega) rfl ?_ | refine r_built tab_ok rfl rfl rfl rfl rfl rfl rfl rfl rfl ?_))
  simp only [h3]
  refine r_call hr call24 rfl rfl trivial rfl rfl rfl rfl ?_
  repeat (first | refine awp_seq ?_ | refine thenA_normal ?_ | refine awp_block ?_ | refine a_region ?_ | refine r_done ?_ | (refine r_id ?_; first | refine r_ev tab_ok rfl rfl rfl rfl byE rfl ?_))
  refine a_loop (σ := ShO tag l) (fun _ => []) (fun x => [(3, .sl 1 (tagL.map sF)), (4, .sl 1 (wantL.map sF)), (5, .val (.int .i64 i)), (6, .sl 4 (l.map r1D)), (7, .val (.string x.g)), (8, .val (.int .i64 x.j))]) (fun x => l.length - x.j) ⟨0, ⟨#[]⟩, Nat.zero_le _, rfl⟩ (fits_of rfl byK) ?_
  rintro ⟨j, g, hj, heq⟩
  dsimp only
  by_cases hjl : j < l.length
  rotate_left
  · have hjj : ¬ ((j : Nat) : Int) < (l.length : Int) := by omega
    rw [List.drop_eq_nil_of_le (by omega), shO, hsh] at heq
    repeat (first | refine awp_seq ?_ | refine thenA_normal ?_ | refine a_region ?_ | refine awp_exit ?_ | refine r_done ?_ | (refine r_id ?_; first | refine r_len tab_ok rfl rfl rfl rfl rfl rfl rfl ?_ | refine r_ev tab_ok rfl rfl rfl rfl byE rfl ?_ | refine r_idx tab_ok rfl rfl rfl rfl rfl rfl rfl (by first | exact ⟨by omega, by omega⟩ | (simp; omega)) rfl rfl ?_) | refine awp_cond_f rfl ?_ | refine r_g rfl rfl (congrArg (fun b => AV.val (.bool b)) (decide_eq_true (by assumption))) ?_ | refine r_pick_f rfl rfl (congrArg (fun b => AV.val (.bool b)) (decide_eq_false (by assumption))) rfl rfl rfl rfl ?_ | refine r_off rfl rfl (congrArg (fun b => AV.val (.bool b)) (decide_eq_false (by assumption))) rfl rfl rfl ?_)
    try simp only [ei]
    try simp only [ei]
    refine r_call awake21_ok call25 rfl rfl trivial rfl rfl rfl rfl ?_
    repeat (first | refine thenA_normal ?_ | refine awp_ret ?_ | refine r_done ?_ | (refine r_id ?_; first | refine r_ev tab_ok rfl rfl rfl rfl byE rfl ?_) | refine ret1 byO rfl rfl rfl ?_ | refine r_pick_t rfl rfl (congrArg (fun b => AV.val (.bool b)) (decide_eq_true (by assumption))) rfl rfl rfl rfl ?_)
    exact Sub.refl _
  have hjj : ((j : Nat) : Int) < (l.length : Int) := by omega
  rw [drop_at hjl, shO] at heq
  by_cases hg : g = ⟨#[]⟩
  rotate_left
  · rw [if_neg hg, hsh] at heq
    repeat (first | refine awp_seq ?_ | refine thenA_normal ?_ | refine a_region ?_ | refine r_done ?_ | (refine r_id ?_; first | refine r_len tab_ok rfl rfl rfl rfl rfl rfl rfl ?_ | refine r_ev tab_ok rfl rfl rfl rfl byE rfl ?_) | refine r_g rfl rfl (congrArg (fun b => AV.val (.bool b)) (decide_eq_true (by assumption))) ?_ | refine r_pick_t rfl rfl (congrArg (fun b => AV.val (.bool b)) (decide_eq_true (by assumption))) rfl rfl rfl rfl ?_)
    refine awp_cond_p rfl (fun h => absurd h hg) (fun _ => ?_)
    repeat (first | refine awp_seq ?_ | refine a_region ?_ | refine awp_exit ?_ | (refine r_id ?_; first | refine r_ev tab_ok rfl rfl rfl rfl byE rfl ?_ | refine r_idx tab_ok rfl rfl rfl rfl rfl rfl rfl (by first | exact ⟨by omega, by omega⟩ | (simp; omega)) rfl rfl ?_) | refine r_g rfl rfl (congrArg (fun b => AV.val (.bool b)) (decide_eq_true (by assumption))) ?_)
    try simp only [ei]
    try simp only [ei]
    refine r_call awake21_ok call25 rfl rfl trivial rfl rfl rfl rfl ?_
    repeat (first | refine thenA_normal ?_ | refine awp_ret ?_ | refine r_done ?_ | (refine r_id ?_; first | refine r_ev tab_ok rfl rfl rfl rfl byE rfl ?_) | refine ret1 byO rfl rfl rfl ?_ | refine r_pick_t rfl rfl (congrArg (fun b => AV.val (.bool b)) (decide_eq_true (by assumption))) rfl rfl rfl rfl ?_)
    exact Sub.refl _
  rw [if_pos hg] at heq
  subst hg
  obtain ⟨r, hrj⟩ : ∃ r, l[j] = r := ⟨_, rfl⟩
  have hpl := hz r (by rw [← hrj]; exact List.getElem_mem hjl)
  rw [hrj] at heq
  have ej : ((j : Nat) : Int).toNat = j := Int.toNat_natCast j
  repeat (first | refine awp_seq ?_ | refine thenA_normal ?_ | refine awp_block ?_ | refine a_region ?_ | refine awp_skip ?_ | refine r_done ?_ | (refine r_id ?_; first | refine r_len tab_ok rfl rfl rfl rfl rfl rfl rfl ?_ | refine r_ev tab_ok rfl rfl rfl rfl byE rfl ?_) | refine awp_cond_t rfl ?_ | refine r_g rfl rfl (congrArg (fun b => AV.val (.bool b)) (decide_eq_true (by assumption))) ?_ | refine r_pick_t rfl rfl (congrArg (fun b => AV.val (.bool b)) (decide_eq_true (by assumption))) rfl rfl rfl rfl ?_)
  refine a_loop (σ := ShI tag r ⟨#[]⟩) (fun _ => []) (fun x => [(3, .sl 1 (tagL.map sF)), (4, .sl 1 (wantL.map sF)), (5, .val (.int .i64 i)), (6, .sl 4 (l.map r1D)), (7, .val (.string x.g)), (8, .val (.int .i64 j)), (9, .val (.int .i64 x.n))]) (fun x => r.pre.length - x.n) ⟨0, ⟨#[]⟩, Nat.zero_le _, rfl⟩ (fits_of rfl byK) ?_
  rintro ⟨n, g, hn, hin⟩
  dsimp only
  have hpm : (r.pre.map nF).length = r.pre.length := List.length_map _
  have en : ((n : Nat) : Int).toNat = n := Int.toNat_natCast n
  repeat (first | refine awp_seq ?_ | refine thenA_normal ?_ | refine a_region ?_ | refine r_done ?_ | (refine r_id ?_; first | refine r_len tab_ok rfl rfl rfl rfl rfl rfl rfl ?_ | refine r_ev tab_ok rfl rfl rfl rfl byE rfl ?_ | refine r_idx tab_ok rfl rfl rfl rfl rfl rfl rfl (by first | exact ⟨by omega, by omega⟩ | (simp; omega)) rfl rfl ?_))
  try simp only [ej, hrj]
  try simp only [ej, hrj]
  refine awp_cond_p rfl (fun hlt => ?_) (fun hge => ?_)
  rotate_left
  · rw [List.drop_eq_nil_of_le (by omega)] at hin
    rw [← hin] at heq
    repeat (first | refine thenA_normal ?_ | refine a_region ?_ | refine awp_exit ?_ | refine r_done ?_ | (refine r_id ?_; first | refine r_ev tab_ok rfl rfl rfl rfl byE rfl ?_))
    exact ⟨⟨j + 1, g, hjl, heq⟩, by dsimp only; omega, fits_of rfl byK⟩
  have hnl : n < r.pre.length := by omega
  rw [drop_at hnl, inO, List.foldl_cons] at hin
  obtain ⟨m, hm⟩ : ∃ m, r.pre[n] = m := ⟨_, rfl⟩
  rw [hm, stN] at hin
  by_cases hk1 : m.tok.kind = 1
  rotate_left
  · rw [if_neg (fun h => hk1 h.1)] at hin
    repeat (first | refine awp_seq ?_ | refine awp_block ?_ | refine a_region ?_ | refine awp_skip ?_ | (refine r_id ?_; first | refine r_ev tab_ok rfl rfl rfl rfl byE rfl ?_ | refine r_idx tab_ok rfl rfl rfl rfl rfl rfl rfl (by first | exact ⟨by omega, by omega⟩ | (simp; omega)) rfl rfl ?_))
    try simp only [ej, hrj, en, hm, ei, htag]
    repeat (first | refine awp_seq ?_ | refine a_draw1 mixed_ok (by kernel_rfl) ?_ | refine r_done ?_ | (refine r_id ?_; first | refine r_ev tab_ok rfl rfl rfl rfl byE rfl ?_ | refine r_ld tab_ok rfl rfl rfl rfl rfl ?_ | refine r_idx tab_ok rfl rfl rfl rfl rfl rfl rfl (by first | exact ⟨by omega, by omega⟩ | (simp; omega)) rfl rfl ?_ | refine r_wr tab_ok rfl rfl rfl rfl rfl ?_ | refine r_st tab_ok rfl rfl rfl rfl ?_))
    try simp only [ej, hrj, en, hm, ei, htag]
    repeat (first | refine thenA_normal ?_ | refine a_region ?_ | refine awp_exit ?_ | refine r_done ?_ | refine r_done' ?_ | (refine r_id ?_; first | refine r_ev tab_ok rfl rfl rfl rfl byE rfl ?_ | refine r_pick_t rfl rfl rfl rfl rfl rfl rfl ?_ | refine r_off rfl rfl rfl rfl rfl rfl ?_) | refine awp_cond_t rfl ?_ | refine r_pick_t rfl rfl (congrArg (fun b => AV.val (.bool b)) (bnot_f (by assumption))) rfl rfl rfl rfl ?_ | refine r_off rfl rfl (congrArg (fun b => AV.val (.bool b)) (bnot_f (by assumption))) rfl rfl rfl ?_)
    try simp only [ej, hrj, en, hm, ei, htag]
    try simp only [ej, hrj, en, hm, ei, htag]
    exact ⟨⟨n + 1, g, hnl, hin⟩, by dsimp only; omega, fits_drop 0 rfl rfl byK⟩
  by_cases htx : m.tok.text = tag
  rotate_left
  · rw [if_neg (fun h => htx h.2.1)] at hin
    repeat (first | refine awp_seq ?_ | refine awp_block ?_ | refine a_region ?_ | refine awp_skip ?_ | (refine r_id ?_; first | refine r_ev tab_ok rfl rfl rfl rfl byE rfl ?_ | refine r_idx tab_ok rfl rfl rfl rfl rfl rfl rfl (by first | exact ⟨by omega, by omega⟩ | (simp; omega)) rfl rfl ?_))
    try simp only [ej, hrj, en, hm, ei, htag]
    repeat (first | refine awp_seq ?_ | refine a_draw1 mixed_ok (by kernel_rfl) ?_ | refine r_done ?_ | (refine r_id ?_; first | refine r_ev tab_ok rfl rfl rfl rfl byE rfl ?_ | refine r_ld tab_ok rfl rfl rfl rfl rfl ?_ | refine r_idx tab_ok rfl rfl rfl rfl rfl rfl rfl (by first | exact ⟨by omega, by omega⟩ | (simp; omega)) rfl rfl ?_ | refine r_wr tab_ok rfl rfl rfl rfl rfl ?_ | refine r_st tab_ok rfl rfl rfl rfl ?_))
    try simp only [ej, hrj, en, hm, ei, htag]
    repeat (first | (refine r_id ?_; first | refine r_ev tab_ok rfl rfl rfl rfl byE rfl ?_ | refine r_ld tab_ok rfl rfl rfl rfl rfl ?_ | refine r_idx tab_ok rfl rfl rfl rfl rfl rfl rfl (by first | exact ⟨by omega, by omega⟩ | (simp; omega)) rfl rfl ?_) | refine r_g rfl rfl (congrArg (fun b => AV.val (.bool b)) (bnot_t (by assumption))) ?_ | refine r_pick_f rfl rfl (congrArg (fun b => AV.val (.bool b)) (bnot_t (by assumption))) rfl rfl rfl rfl ?_)
    try simp only [ej, hrj, en, hm, ei, htag]
    repeat (first | refine thenA_normal ?_ | refine a_region ?_ | refine awp_exit ?_ | refine r_done ?_ | refine r_done' ?_ | (refine r_id ?_; first | refine r_ev tab_ok rfl rfl rfl rfl byE rfl ?_ | refine r_pick_t rfl rfl rfl rfl rfl rfl rfl ?_ | refine r_off rfl rfl rfl rfl rfl rfl ?_) | refine awp_cond_t rfl ?_ | refine r_pick_t rfl rfl (congrArg (fun b => AV.val (.bool b)) (bnot_f (by assumption))) rfl rfl rfl rfl ?_ | refine r_off rfl rfl (congrArg (fun b => AV.val (.bool b)) (bnot_f (by assumption))) rfl rfl rfl ?_)
    try simp only [ej, hrj, en, hm, ei, htag]
    exact ⟨⟨n + 1, g, hnl, hin⟩, by dsimp only; omega, fits_drop 0 rfl rfl byK⟩
  by_cases hnm : r.nm = (⟨#[100, 105, 115, 112, 108, 97, 121]⟩ : ByteArray)
  rotate_left
  · rw [if_neg (fun h => hnm h.2.2)] at hin
    repeat (first | refine awp_seq ?_ | refine awp_block ?_ | refine a_region ?_ | refine awp_skip ?_ | (refine r_id ?_; first | refine r_ev tab_ok rfl rfl rfl rfl byE rfl ?_ | refine r_idx tab_ok rfl rfl rfl rfl rfl rfl rfl (by first | exact ⟨by omega, by omega⟩ | (simp; omega)) rfl rfl ?_))
    try simp only [ej, hrj, en, hm, ei, htag]
    repeat (first | refine awp_seq ?_ | refine a_draw1 mixed_ok (by kernel_rfl) ?_ | refine r_done ?_ | (refine r_id ?_; first | refine r_ev tab_ok rfl rfl rfl rfl byE rfl ?_ | refine r_ld tab_ok rfl rfl rfl rfl rfl ?_ | refine r_idx tab_ok rfl rfl rfl rfl rfl rfl rfl (by first | exact ⟨by omega, by omega⟩ | (simp; omega)) rfl rfl ?_ | refine r_wr tab_ok rfl rfl rfl rfl rfl ?_ | refine r_st tab_ok rfl rfl rfl rfl ?_))
    try simp only [ej, hrj, en, hm, ei, htag]
    repeat (first | (refine r_id ?_; first | refine r_ev tab_ok rfl rfl rfl rfl byE rfl ?_ | refine r_ld tab_ok rfl rfl rfl rfl rfl ?_ | refine r_idx tab_ok rfl rfl rfl rfl rfl rfl rfl (by first | exact ⟨by omega, by omega⟩ | (simp; omega)) rfl rfl ?_) | refine r_g rfl rfl (congrArg (fun b => AV.val (.bool b)) (bnot_t (by assumption))) ?_ | refine r_pick_f rfl rfl (congrArg (fun b => AV.val (.bool b)) (bnot_t (by assumption))) rfl rfl rfl rfl ?_)
    try simp only [ej, hrj, en, hm, ei, htag]
    repeat (first | (refine r_id ?_; first | refine r_ev tab_ok rfl rfl rfl rfl byE rfl ?_ | refine r_idx tab_ok rfl rfl rfl rfl rfl rfl rfl (by first | exact ⟨by omega, by omega⟩ | (simp; omega)) rfl rfl ?_ | refine r_idxd tab_ok rfl rfl rfl rfl rfl rfl rfl (by decide) rfl rfl rfl ?_ | refine r_pick_f rfl rfl rfl rfl rfl rfl rfl ?_ | refine r_ev_on tab_ok rfl rfl rfl rfl rfl rfl (by first | exact trivial | exact ⟨by omega, by omega⟩ | omega) rfl ?_) | refine r_g rfl rfl rfl ?_ | refine r_g rfl rfl (congrArg (fun b => AV.val (.bool b)) (bnot_t (by assumption))) ?_ | refine r_pick_f rfl rfl (congrArg (fun b => AV.val (.bool b)) (bnot_t (by assumption))) rfl rfl rfl rfl ?_)
    try simp only [ej, hrj, en, hm, ei, htag]
    repeat (first | refine thenA_normal ?_ | refine a_region ?_ | refine awp_exit ?_ | refine r_done ?_ | refine r_done' ?_ | (refine r_id ?_; first | refine r_ev tab_ok rfl rfl rfl rfl byE rfl ?_) | refine awp_cond_t rfl ?_ | refine r_pick_t rfl rfl (congrArg (fun b => AV.val (.bool b)) (bnot_f (by assumption))) rfl rfl rfl rfl ?_ | refine r_off rfl rfl (congrArg (fun b => AV.val (.bool b)) (bnot_f (by assumption))) rfl rfl rfl ?_)
    exact ⟨⟨n + 1, g, hnl, hin⟩, by dsimp only; omega, fits_drop 0 rfl rfl byK⟩
  · rw [if_pos ⟨hk1, htx, hnm⟩] at hin
    repeat (first | refine awp_seq ?_ | refine awp_block ?_ | refine a_region ?_ | refine awp_skip ?_ | (refine r_id ?_; first | refine r_ev tab_ok rfl rfl rfl rfl byE rfl ?_ | refine r_idx tab_ok rfl rfl rfl rfl rfl rfl rfl (by first | exact ⟨by omega, by omega⟩ | (simp; omega)) rfl rfl ?_))
    try simp only [ej, hrj, en, hm, ei, htag]
    repeat (first | refine awp_seq ?_ | refine a_draw1 mixed_ok (by kernel_rfl) ?_ | refine r_done ?_ | (refine r_id ?_; first | refine r_ev tab_ok rfl rfl rfl rfl byE rfl ?_ | refine r_ld tab_ok rfl rfl rfl rfl rfl ?_ | refine r_idx tab_ok rfl rfl rfl rfl rfl rfl rfl (by first | exact ⟨by omega, by omega⟩ | (simp; omega)) rfl rfl ?_ | refine r_wr tab_ok rfl rfl rfl rfl rfl ?_ | refine r_st tab_ok rfl rfl rfl rfl ?_))
    try simp only [ej, hrj, en, hm, ei, htag]
    repeat (first | (refine r_id ?_; first | refine r_ev tab_ok rfl rfl rfl rfl byE rfl ?_ | refine r_ld tab_ok rfl rfl rfl rfl rfl ?_ | refine r_idx tab_ok rfl rfl rfl rfl rfl rfl rfl (by first | exact ⟨by omega, by omega⟩ | (simp; omega)) rfl rfl ?_) | refine r_g rfl rfl (congrArg (fun b => AV.val (.bool b)) (bnot_t (by assumption))) ?_ | refine r_pick_f rfl rfl (congrArg (fun b => AV.val (.bool b)) (bnot_t (by assumption))) rfl rfl rfl rfl ?_)
    try simp only [ej, hrj, en, hm, ei, htag]
    repeat (first | (refine r_id ?_; first | refine r_ev tab_ok rfl rfl rfl rfl byE rfl ?_ | refine r_idx tab_ok rfl rfl rfl rfl rfl rfl rfl (by first | exact ⟨by omega, by omega⟩ | (simp; omega)) rfl rfl ?_ | refine r_idxd tab_ok rfl rfl rfl rfl rfl rfl rfl (by decide) rfl rfl rfl ?_ | refine r_pick_f rfl rfl rfl rfl rfl rfl rfl ?_ | refine r_ev_on tab_ok rfl rfl rfl rfl rfl rfl (by first | exact trivial | exact ⟨by omega, by omega⟩ | omega) rfl ?_) | refine r_g rfl rfl rfl ?_ | refine r_g rfl rfl (congrArg (fun b => AV.val (.bool b)) (bnot_t (by assumption))) ?_ | refine r_pick_f rfl rfl (congrArg (fun b => AV.val (.bool b)) (bnot_t (by assumption))) rfl rfl rfl rfl ?_)
    try simp only [ej, hrj, en, hm, ei, htag]
    repeat (first | refine thenA_normal ?_ | refine a_region ?_ | refine awp_skip ?_ | refine r_done ?_ | refine r_done' ?_ | (refine r_id ?_; first | refine r_ev tab_ok rfl rfl rfl rfl byE rfl ?_ | refine r_idx tab_ok rfl rfl rfl rfl rfl rfl rfl (by first | exact ⟨by omega, by omega⟩ | (simp; omega)) rfl rfl ?_ | refine r_idxd tab_ok rfl rfl rfl rfl rfl rfl rfl (by decide) rfl rfl rfl ?_) | refine awp_cond_f rfl ?_ | refine r_g rfl rfl (congrArg (fun b => AV.val (.bool b)) (bnot_t (by assumption))) ?_ | refine r_pick_f rfl rfl (congrArg (fun b => AV.val (.bool b)) (bnot_t (by assumption))) rfl rfl rfl rfl ?_)
    try simp only [ej, hrj]
    exact ⟨⟨n + 1, r.v.tok.text, hnl, hin⟩, by dsimp only; omega, fits_drop 0 rfl rfl byK⟩
end Go.Proofs.YtiolnmfaeenlmaaGreatDoor
