import Derived.Test.YtiolnmfaeenlmaaGreatDoorRg
import Derived.Test.YtiolnmfaeenlmaaGreatDoorU5
import Derived.Test.YtiolnmfaeenlmaaGreatDoorKd
import Derived.Test.YtiolnmfaeenlmaaGreatDoorF4
/- agent.Rules and the reference's Sheet of the agent's text. -/
namespace Go.Proofs.YtiolnmfaeenlmaaGreatDoor
open Go Go.RowKit
set_option maxRecDepth 20000

def lf (t : Tk) : Nd := .mk t []
def agB : List UInt8 := ([104, 116, 109, 108, 44, 32, 98, 111, 100, 121, 44, 32, 100, 105, 118, 44, 32, 112, 44, 32, 111, 108, 44, 32, 117, 108, 44, 32, 109, 101, 110, 117, 44, 32, 104, 49, 44, 32, 104, 50, 44, 32, 104, 51, 44, 32, 115, 101, 99, 116, 105, 111, 110, 32, 123, 32, 100, 105, 115, 112, 108, 97, 121, 58, 32, 98, 108, 111, 99, 107, 32, 125, 32, 108, 105, 32, 123, 32, 100, 105, 115, 112, 108, 97, 121, 58, 32, 108, 105, 115, 116, 45, 105, 116, 101, 109, 32, 125, 32, 104, 101, 97, 100, 44, 32, 115, 116, 121, 108, 101, 44, 32, 115, 99, 114, 105, 112, 116, 44, 32, 116, 105, 116, 108, 101, 44, 32, 116, 101, 109, 112, 108, 97, 116, 101, 32, 123, 32, 100, 105, 115, 112, 108, 97, 121, 58, 32, 110, 111, 110, 101, 32, 125, 32, 111, 108, 32, 123, 32, 108, 105, 115, 116, 45, 115, 116, 121, 108, 101, 45, 116, 121, 112, 101, 58, 32, 100, 101, 99, 105, 109, 97, 108, 32, 125, 32, 117, 108, 44, 32, 109, 101, 110, 117, 32, 123, 32, 108, 105, 115, 116, 45, 115, 116, 121, 108, 101, 45, 116, 121, 112, 101, 58, 32, 100, 105, 115, 99, 32, 125, 32, 117, 108, 32, 117, 108, 44, 32, 111, 108, 32, 117, 108, 32, 123, 32, 108, 105, 115, 116, 45, 115, 116, 121, 108, 101, 45, 116, 121, 112, 101, 58, 32, 99, 105, 114, 99, 108, 101, 32, 125, 32, 113, 58, 58, 98, 101, 102, 111, 114, 101, 32, 123, 32, 99, 111, 110, 116, 101, 110, 116, 58, 32, 111, 112, 101, 110, 45, 113, 117, 111, 116, 101, 32, 125, 32, 113, 58, 58, 97, 102, 116, 101, 114, 32, 123, 32, 99, 111, 110, 116, 101, 110, 116, 58, 32, 99, 108, 111, 115, 101, 45, 113, 117, 111, 116, 101, 32, 125] : List UInt8)
def agS : ByteArray := ⟨agB.toArray⟩
def agR0 : Rl := ⟨⟨#[]⟩, [lf ⟨1, ⟨#[104, 116, 109, 108]⟩, 0, false, false, false⟩, lf ⟨18, ⟨#[]⟩, 0, false, false, false⟩, lf ⟨13, ⟨#[]⟩, 0, false, false, false⟩, lf ⟨1, ⟨#[98, 111, 100, 121]⟩, 0, false, false, false⟩, lf ⟨18, ⟨#[]⟩, 0, false, false, false⟩, lf ⟨13, ⟨#[]⟩, 0, false, false, false⟩, lf ⟨1, ⟨#[100, 105, 118]⟩, 0, false, false, false⟩, lf ⟨18, ⟨#[]⟩, 0, false, false, false⟩, lf ⟨13, ⟨#[]⟩, 0, false, false, false⟩, lf ⟨1, ⟨#[112]⟩, 0, false, false, false⟩, lf ⟨18, ⟨#[]⟩, 0, false, false, false⟩, lf ⟨13, ⟨#[]⟩, 0, false, false, false⟩, lf ⟨1, ⟨#[111, 108]⟩, 0, false, false, false⟩, lf ⟨18, ⟨#[]⟩, 0, false, false, false⟩, lf ⟨13, ⟨#[]⟩, 0, false, false, false⟩, lf ⟨1, ⟨#[117, 108]⟩, 0, false, false, false⟩, lf ⟨18, ⟨#[]⟩, 0, false, false, false⟩, lf ⟨13, ⟨#[]⟩, 0, false, false, false⟩, lf ⟨1, ⟨#[109, 101, 110, 117]⟩, 0, false, false, false⟩, lf ⟨18, ⟨#[]⟩, 0, false, false, false⟩, lf ⟨13, ⟨#[]⟩, 0, false, false, false⟩, lf ⟨1, ⟨#[104, 49]⟩, 0, false, false, false⟩, lf ⟨18, ⟨#[]⟩, 0, false, false, false⟩, lf ⟨13, ⟨#[]⟩, 0, false, false, false⟩, lf ⟨1, ⟨#[104, 50]⟩, 0, false, false, false⟩, lf ⟨18, ⟨#[]⟩, 0, false, false, false⟩, lf ⟨13, ⟨#[]⟩, 0, false, false, false⟩, lf ⟨1, ⟨#[104, 51]⟩, 0, false, false, false⟩, lf ⟨18, ⟨#[]⟩, 0, false, false, false⟩, lf ⟨13, ⟨#[]⟩, 0, false, false, false⟩, lf ⟨1, ⟨#[115, 101, 99, 116, 105, 111, 110]⟩, 0, false, false, false⟩], true, [⟨⟨#[100, 105, 115, 112, 108, 97, 121]⟩, [lf ⟨1, ⟨#[98, 108, 111, 99, 107]⟩, 0, false, false, false⟩], false⟩]⟩
def agR1 : Rl := ⟨⟨#[]⟩, [lf ⟨1, ⟨#[108, 105]⟩, 0, false, false, false⟩], true, [⟨⟨#[100, 105, 115, 112, 108, 97, 121]⟩, [lf ⟨1, ⟨#[108, 105, 115, 116, 45, 105, 116, 101, 109]⟩, 0, false, false, false⟩], false⟩]⟩
def agR2 : Rl := ⟨⟨#[]⟩, [lf ⟨1, ⟨#[104, 101, 97, 100]⟩, 0, false, false, false⟩, lf ⟨18, ⟨#[]⟩, 0, false, false, false⟩, lf ⟨13, ⟨#[]⟩, 0, false, false, false⟩, lf ⟨1, ⟨#[115, 116, 121, 108, 101]⟩, 0, false, false, false⟩, lf ⟨18, ⟨#[]⟩, 0, false, false, false⟩, lf ⟨13, ⟨#[]⟩, 0, false, false, false⟩, lf ⟨1, ⟨#[115, 99, 114, 105, 112, 116]⟩, 0, false, false, false⟩, lf ⟨18, ⟨#[]⟩, 0, false, false, false⟩, lf ⟨13, ⟨#[]⟩, 0, false, false, false⟩, lf ⟨1, ⟨#[116, 105, 116, 108, 101]⟩, 0, false, false, false⟩, lf ⟨18, ⟨#[]⟩, 0, false, false, false⟩, lf ⟨13, ⟨#[]⟩, 0, false, false, false⟩, lf ⟨1, ⟨#[116, 101, 109, 112, 108, 97, 116, 101]⟩, 0, false, false, false⟩], true, [⟨⟨#[100, 105, 115, 112, 108, 97, 121]⟩, [lf ⟨1, ⟨#[110, 111, 110, 101]⟩, 0, false, false, false⟩], false⟩]⟩
def agR3 : Rl := ⟨⟨#[]⟩, [lf ⟨1, ⟨#[111, 108]⟩, 0, false, false, false⟩], true, [⟨⟨#[108, 105, 115, 116, 45, 115, 116, 121, 108, 101, 45, 116, 121, 112, 101]⟩, [lf ⟨1, ⟨#[100, 101, 99, 105, 109, 97, 108]⟩, 0, false, false, false⟩], false⟩]⟩
def agR4 : Rl := ⟨⟨#[]⟩, [lf ⟨1, ⟨#[117, 108]⟩, 0, false, false, false⟩, lf ⟨18, ⟨#[]⟩, 0, false, false, false⟩, lf ⟨13, ⟨#[]⟩, 0, false, false, false⟩, lf ⟨1, ⟨#[109, 101, 110, 117]⟩, 0, false, false, false⟩], true, [⟨⟨#[108, 105, 115, 116, 45, 115, 116, 121, 108, 101, 45, 116, 121, 112, 101]⟩, [lf ⟨1, ⟨#[100, 105, 115, 99]⟩, 0, false, false, false⟩], false⟩]⟩
def agR5 : Rl := ⟨⟨#[]⟩, [lf ⟨1, ⟨#[117, 108]⟩, 0, false, false, false⟩, lf ⟨13, ⟨#[]⟩, 0, false, false, false⟩, lf ⟨1, ⟨#[117, 108]⟩, 0, false, false, false⟩, lf ⟨18, ⟨#[]⟩, 0, false, false, false⟩, lf ⟨13, ⟨#[]⟩, 0, false, false, false⟩, lf ⟨1, ⟨#[111, 108]⟩, 0, false, false, false⟩, lf ⟨13, ⟨#[]⟩, 0, false, false, false⟩, lf ⟨1, ⟨#[117, 108]⟩, 0, false, false, false⟩], true, [⟨⟨#[108, 105, 115, 116, 45, 115, 116, 121, 108, 101, 45, 116, 121, 112, 101]⟩, [lf ⟨1, ⟨#[99, 105, 114, 99, 108, 101]⟩, 0, false, false, false⟩], false⟩]⟩
def agR6 : Rl := ⟨⟨#[]⟩, [lf ⟨1, ⟨#[113]⟩, 0, false, false, false⟩, lf ⟨16, ⟨#[]⟩, 0, false, false, false⟩, lf ⟨16, ⟨#[]⟩, 0, false, false, false⟩, lf ⟨1, ⟨#[98, 101, 102, 111, 114, 101]⟩, 0, false, false, false⟩], true, [⟨⟨#[99, 111, 110, 116, 101, 110, 116]⟩, [lf ⟨1, ⟨#[111, 112, 101, 110, 45, 113, 117, 111, 116, 101]⟩, 0, false, false, false⟩], false⟩]⟩
def agR7 : Rl := ⟨⟨#[]⟩, [lf ⟨1, ⟨#[113]⟩, 0, false, false, false⟩, lf ⟨16, ⟨#[]⟩, 0, false, false, false⟩, lf ⟨16, ⟨#[]⟩, 0, false, false, false⟩, lf ⟨1, ⟨#[97, 102, 116, 101, 114]⟩, 0, false, false, false⟩], true, [⟨⟨#[99, 111, 110, 116, 101, 110, 116]⟩, [lf ⟨1, ⟨#[99, 108, 111, 115, 101, 45, 113, 117, 111, 116, 101]⟩, 0, false, false, false⟩], false⟩]⟩
def agR : List Rl := [agR0, agR1, agR2, agR3, agR4, agR5, agR6, agR7]
def okTx (n : Nd) : Bool := decide (n.tok.text.size ≤ 1099511627776)
def atNB (l : List Nd) : Bool := l.all fun n => !atKB n || !decide (lowS n.tok.text = ⟨#[]⟩)
theorem atN_of {l : List Nd} (h : atNB l = true) : atN l := by
  intro n hn ha
  have := List.all_eq_true.1 h n hn
  rw [ha, Bool.not_true, Bool.false_or, Bool.not_eq_true', decide_eq_false_iff_not] at this
  exact this
/-- All that psheet_ok asks of a text. -/
def okPs (b : List UInt8) : Bool := decide (b.length ≤ 65536) && (readL ⟨b.toArray⟩).all (fun x => decide (0 ≤ x)) && atNB (allF b) && (allF b).all (fun n => okTx n && n.kids.all okTx)
theorem psheet_at {b : List UInt8} {l : List Rl} {e : Int} (h : okPs b = true ∧ shE b = (l, e)) : PCalls Tryz.prog 12 [.sl 1 (b.map bD)] (.tup [.sl 4 (l.map rlD), .val (.int .i64 e)]) := by
  obtain ⟨h1, h2⟩ := h
  simp only [okPs, Bool.and_eq_true, decide_eq_true_eq, List.all_eq_true, okTx] at h1
  obtain ⟨⟨⟨h3, h4⟩, h5⟩, h6⟩ := h1
  have := psheet_ok b h3 h4 (atN_of h5) (fun n hn => (h6 n hn).1) (fun n hn m hm => (h6 n hn).2 m hm)
  rw [h2] at this
  exact this
def ndR (b : List UInt8) : List Nd := nodesA (toksF (readL ⟨b.toArray⟩)) 0
def okRs (b : List UInt8) : Bool := decide (b.length ≤ 65536) && (ndR b).all (fun n => okTx n && n.kids.all okTx) && decide ((shtA (ndR b) 0).length ≤ 500)
theorem rsheet_at {b : List UInt8} {l : List Rl} (h : okRs b = true ∧ shtA (ndR b) 0 = l) : PCalls Tryz.prog 13 [.sl 1 (b.map bD)] (.tup [.sl 4 (l.map rlD), .val (.int .i64 0)]) := by
  obtain ⟨h1, rfl⟩ := h
  simp only [okRs, Bool.and_eq_true, decide_eq_true_eq, List.all_eq_true, okTx] at h1
  obtain ⟨⟨h3, h4⟩, h5⟩ := h1
  exact sheet_ok b h3 (fun n hn => (h4 n hn).1) (fun n hn m hm => (h4 n hn).2 m hm) h5
theorem ag1 : okPs agB = true ∧ shE agB = (agR, 0) := ⟨by kernel_rfl, by kernel_rfl⟩
theorem ag2 : okRs agB = true ∧ shtA (ndR agB) 0 = agR := ⟨by kernel_rfl, by kernel_rfl⟩
theorem agRules_ok : PCalls Tryz.prog 24 [] (.sl 4 (agR.map rlD)) := by
  refine p_start Tryz.func24 Tryz.ntmps24 rfl rfl rfl fun S w => ?_
  repeat (first | refine awp_seq ?_ | refine a_region ?_ | refine r_done ?_ | (refine r_id ?_; first | refine r_ev tab_ok rfl rfl rfl rfl byE rfl ?_))
  refine r_built_row tab_ok rfl rfl rfl rfl rfl rfl rfl rfl rfl ?_
  refine r_mark tab_ok rfl rfl rfl rfl rfl rfl (by simp) rfl rfl rfl ?_
  refine r_call (psheet_at ag1) call12 rfl rfl ⟨Sub.refl _, trivial⟩ rfl rfl rfl rfl ?_
  repeat (first | refine awp_seq ?_ | refine thenA_normal ?_ | refine a_region ?_ | refine awp_ret ?_ | refine r_done ?_ | (refine r_id ?_; first | refine r_ev tab_ok rfl rfl rfl rfl byE rfl ?_) | refine ret1 byO rfl rfl rfl ?_)
  exact Sub.refl _
theorem agAgent_ok : PCalls Tryz.prog 49 [] (.val (.string agS)) := by
  refine p_start Tryz.func49 Tryz.ntmps49 rfl rfl rfl fun S w => ?_
  repeat (first | refine awp_seq ?_ | refine thenA_normal ?_ | refine a_region ?_ | refine awp_ret ?_ | refine r_done ?_ | (refine r_id ?_; first | refine r_ev tab_ok rfl rfl rfl rfl byE rfl ?_) | refine ret1 byO rfl rfl rfl ?_)
  exact Sub.refl _
theorem agText_ok : PCalls Tryz.prog 50 [] (.val (.string agS)) := by
  refine p_start Tryz.func50 Tryz.ntmps50 rfl rfl rfl fun S w => ?_
  repeat (first | refine awp_seq ?_ | refine thenA_normal ?_ | refine a_region ?_ | refine awp_ret ?_ | refine r_done ?_ | (refine r_id ?_; first | refine r_ev tab_ok rfl rfl rfl rfl byE rfl ?_) | refine ret1 byO rfl rfl rfl ?_)
  exact Sub.refl _
theorem agSame : PCalls Tryz.prog 17 [.sl 4 (agR.map rlD), .sl 4 (agR.map rlD)] (.val (.bool true)) :=
  srules_self agR (by decide) (fun r hr => by
    have h : agR.all (fun r => decide (nszs r.pre < 549755813888) && decide (r.decls.length ≤ 1099511627776) && r.decls.all (fun d => decide (nszs d.value < 549755813888))) = true := by kernel_rfl
    have := List.all_eq_true.1 h r hr
    simp only [Bool.and_eq_true, decide_eq_true_eq, List.all_eq_true] at this
    exact ⟨this.1.1, this.1.2, this.2⟩)
set_option maxHeartbeats 4000000 in
theorem awake21_ok : PCalls Tryz.prog 25 [] (.val (.bool true)) := by
  refine p_start Tryz.func25 Tryz.ntmps25 rfl rfl rfl fun S w => ?_
  repeat (first | refine awp_seq ?_ | refine a_region ?_ | refine r_done ?_ | (refine r_id ?_; first | refine r_ev tab_ok rfl rfl rfl rfl byE rfl ?_))
  refine r_call agAgent_ok call49 rfl rfl trivial rfl rfl rfl rfl ?_
  have hsz : agS.size ≤ 1000 := by decide
  repeat (first | (refine r_id ?_; first | refine r_strd tab_ok rfl rfl rfl rfl rfl rfl (by omega) rfl rfl rfl ?_))
  refine r_call (show PCalls Tryz.prog 13 [.sl 1 (agS.data.toList.map bD)] (.tup [.sl 4 (agR.map rlD), .val (.int .i64 0)]) from rsheet_at ag2) call13 rfl rfl ⟨Sub.refl _, trivial⟩ rfl rfl rfl rfl ?_
  repeat (first | refine awp_seq ?_ | refine a_region ?_ | refine r_done ?_ | (refine r_id ?_; first | refine r_ev tab_ok rfl rfl rfl rfl byE rfl ?_))
  refine r_call agText_ok call50 rfl rfl trivial rfl rfl rfl rfl ?_
  refine r_call agAgent_ok call49 rfl rfl trivial rfl rfl rfl rfl ?_
  repeat (first | (refine r_id ?_; first | refine r_ev tab_ok rfl rfl rfl rfl byE rfl ?_ | refine r_pick_t rfl rfl rfl rfl rfl rfl rfl ?_ | refine r_ev_on tab_ok rfl rfl rfl rfl rfl rfl (by first | exact trivial | exact ⟨by omega, by omega⟩ | omega) rfl ?_) | refine r_g rfl rfl rfl ?_)
  refine r_call agRules_ok call24 rfl rfl trivial rfl rfl rfl rfl ?_
  repeat (first | (refine r_id ?_; first | refine r_ev_on tab_ok rfl rfl rfl rfl rfl rfl (by first | exact trivial | exact ⟨by omega, by omega⟩ | omega) rfl ?_) | refine r_g rfl rfl rfl ?_)
  refine r_call agSame call17 rfl rfl ⟨Sub.refl _, Sub.refl _, trivial⟩ rfl rfl rfl rfl ?_
  repeat (first | refine thenA_normal ?_ | refine awp_ret ?_ | refine r_done ?_ | (refine r_id ?_; first | refine r_ev tab_ok rfl rfl rfl rfl byE rfl ?_ | refine r_pick_t rfl rfl rfl rfl rfl rfl rfl ?_ | refine r_len_on tab_ok rfl rfl rfl rfl rfl rfl rfl rfl rfl ?_ | refine r_ev_on tab_ok rfl rfl rfl rfl rfl rfl (by first | exact trivial | exact ⟨by omega, by omega⟩ | omega) rfl ?_) | refine ret1 byO rfl rfl rfl ?_)
  exact Sub.refl _
end Go.Proofs.YtiolnmfaeenlmaaGreatDoor

/- Texts to tokens and nodes. -/
namespace Go.Proofs.YtiolnmfaeenlmaaGreatDoor
open Go Go.RowKit
set_option maxRecDepth 20000

theorem toksF_len (L : List Int) : (toksF L).length ≤ L.length := by
  obtain ⟨r, j, h1, h2, h3, h4, h5⟩ := goAt_end (tStep_goes L) L.length 0 (Nat.zero_le _) (by omega)
  rw [toksF]
  omega
def toks (s : ByteArray) : List Tk := toksF (readL s)
theorem toks_len (s : ByteArray) : (toks s).length ≤ s.size := Nat.le_trans (toksF_len _) (readL_len s)
def ndsF (s : ByteArray) : List Nd := nodesA (toks s) 0
def okT (n : Nd) : Bool := decide (n.tok.text.size ≤ 1099511627776)
end Go.Proofs.YtiolnmfaeenlmaaGreatDoor

/- Round, Texts of a thing and itself. -/
namespace Go.Proofs.YtiolnmfaeenlmaaGreatDoor
open Go Go.RowKit
set_option maxRecDepth 20000

theorem round_eq (k n : Int) (hn : 0 < n) : (k.tmod n + n).tmod n = k % n := by
  have h1 := Int.tmod_lt_of_pos k hn
  have h2 := Int.lt_tmod_of_pos k hn
  rw [Int.tmod_eq_emod_of_nonneg (by omega), Int.add_emod_right, Int.tmod_eq_emod]
  split
  · simp
  · rw [Int.sub_emod, Int.emod_emod_of_dvd _ (Int.dvd_refl n)]
    have : ((n.natAbs : Int)) % n = 0 := by rw [Int.natAbs_of_nonneg (by omega)]; exact Int.emod_self
    rw [this]; simp
theorem round_ok (k n : Int) (hn0 : 0 < n) (hn : n ≤ 4611686018427387904) : PCalls Tryz.prog 22 [.val (.int .i64 k), .val (.int .i64 n)] (.val (.int .i64 (k % n))) := by
  refine p_start Tryz.func22 Tryz.ntmps22 rfl rfl rfl fun S w => ?_
  have h1 := Int.tmod_lt_of_pos k hn0
  have h2 := Int.lt_tmod_of_pos k hn0
  have h3 := round_eq k n hn0
  repeat (first | refine awp_seq ?_ | refine thenA_normal ?_ | refine a_region ?_ | refine awp_ret ?_ | refine r_done ?_ | (refine r_id ?_; first | refine r_ev tab_ok rfl rfl rfl rfl byE rfl ?_ | refine r_rem rfl rfl rfl rfl rfl rfl (by omega) rfl ?_) | refine ret1 byO rfl rfl rfl ?_)
  generalize k.tmod n = t at h1 h2 h3 ⊢
  exact Sub.of_eq (by rw [← h3, Int.tmod_eq_emod_of_nonneg (by omega)])
end Go.Proofs.YtiolnmfaeenlmaaGreatDoor

/- law4: nodes of a text; awake. -/
namespace Go.Proofs.YtiolnmfaeenlmaaGreatDoor
open Go Go.RowKit
set_option maxRecDepth 20000

set_option maxHeartbeats 1000000 in
theorem nodes4_ok (s : ByteArray) (hs : s.size ≤ 549755813888) : PCalls Tryz.prog 14 [.val (.string s)] (.sl 7 ((ndsF s).map nF)) := by
  refine p_start Tryz.func14 Tryz.ntmps14 rfl rfl rfl fun S w => ?_
  repeat (first | refine awp_seq ?_ | refine a_region ?_ | refine r_done ?_ | (refine r_id ?_; first | refine r_ev tab_ok rfl rfl rfl rfl byE rfl ?_ | refine r_strd tab_ok rfl rfl rfl rfl rfl rfl (by omega) rfl rfl rfl ?_))
  refine r_call (refRead s.data.toList (by have : s.data.toList.length = s.size := rfl; omega)) call33 rfl rfl ⟨Sub.refl _, trivial⟩ rfl rfl rfl rfl ?_
  have hl := readL_len s
  refine r_call (tokens_ok (readL s) (by omega)) call32 rfl rfl ⟨Sub.refl _, trivial⟩ rfl rfl rfl rfl ?_
  have hl2 := toks_len s
  refine r_call (nodes_ok (toks s) (by omega)) call31 rfl rfl ⟨Sub.refl _, trivial⟩ rfl rfl rfl rfl ?_
  repeat (first | refine thenA_normal ?_ | refine awp_ret ?_ | refine r_done ?_ | (refine r_id ?_; first | refine r_ev tab_ok rfl rfl rfl rfl byE rfl ?_) | refine ret1 byO rfl rfl rfl ?_)
  exact Sub.refl _
theorem psheet_big (b : List UInt8) (hb : 65536 < b.length) (hb2 : b.length ≤ 1099511627776) : PCalls Tryz.prog 12 [.sl 1 (b.map bD)] (.tup [.sl 4 [], .val (.int .i64 3)]) := by
  refine p_start Tryz.func12 Tryz.ntmps12 rfl rfl rfl fun S w => ?_
  have hbm : (b.map bD).length = b.length := List.length_map _
  repeat (first | refine awp_seq ?_ | refine thenA_normal ?_ | refine a_region ?_ | refine r_done ?_ | (refine r_id ?_; first | refine r_len tab_ok rfl rfl rfl rfl rfl rfl rfl ?_ | refine r_ev tab_ok rfl rfl rfl rfl byE rfl ?_))
  refine awp_cond_p rfl (fun _ => ?_) (fun h => (h (by omega)).elim)
  repeat (first | refine awp_seq ?_ | refine thenA_normal ?_ | refine a_region ?_ | refine awp_ret ?_ | refine thenA_ret ?_ | refine r_done ?_ | (refine r_id ?_; first | refine r_ev tab_ok rfl rfl rfl rfl byE rfl ?_) | refine ret2 byO rfl rfl rfl rfl ?_ ?_)
  all_goals first | exact Sub.nil _ | exact Sub.refl _
def a4B : List UInt8 := [64, 120, 32, 97, 59, 32, 98, 44, 32, 99, 32, 123, 32, 100, 32, 58, 32, 101, 32, 33, 105, 109, 112, 111, 114, 116, 97, 110, 116, 59, 32, 102, 59, 32, 103, 58, 104, 32, 125, 32, 105]
def a4R0 : Rl := ⟨⟨#[120]⟩, [lf ⟨1, ⟨#[97]⟩, 0, false, false, false⟩], false, []⟩
def a4R1 : Rl := ⟨⟨#[]⟩, [lf ⟨1, ⟨#[98]⟩, 0, false, false, false⟩, lf ⟨18, ⟨#[]⟩, 0, false, false, false⟩, lf ⟨13, ⟨#[]⟩, 0, false, false, false⟩, lf ⟨1, ⟨#[99]⟩, 0, false, false, false⟩], true, [⟨⟨#[100]⟩, [lf ⟨1, ⟨#[101]⟩, 0, false, false, false⟩], true⟩, ⟨⟨#[103]⟩, [lf ⟨1, ⟨#[104]⟩, 0, false, false, false⟩], false⟩]⟩
theorem a41 : okPs a4B = true ∧ shE a4B = ([a4R0, a4R1], 0) := ⟨by kernel_rfl, by kernel_rfl⟩
def a4S : ByteArray := ⟨#[32, 97, 32, 33, 32, 73, 77, 80, 79, 82, 84, 65, 78, 84, 32]⟩
def a4V : List Nd := [lf ⟨1, ⟨#[97]⟩, 0, false, false, false⟩]
theorem a42 : (decide (a4S.size ≤ 1000) && decide (nszs (ndsF a4S) < 1000) && (ndsF a4S).all okTx) = true ∧ valF (ndsF a4S) = (a4V, true) := ⟨by kernel_rfl, by kernel_rfl⟩
def a4T : ByteArray := ⟨#[97, 58, 98, 59, 59, 99, 58, 33]⟩
def a4D : List Dc := [⟨⟨#[97]⟩, [lf ⟨1, ⟨#[98]⟩, 0, false, false, false⟩], false⟩]
theorem a43 : (decide (a4T.size ≤ 1000) && decide (nszs (ndsF a4T) < 1000) && (ndsF a4T).all okTx) = true ∧ decA (ndsF a4T) 0 = a4D := ⟨by kernel_rfl, by kernel_rfl⟩
theorem pvalue_at {s : ByteArray} {v : List Nd} {im : Bool} (h : (decide (s.size ≤ 1000) && decide (nszs (ndsF s) < 1000) && (ndsF s).all okTx) = true ∧ valF (ndsF s) = (v, im)) : PCalls Tryz.prog 15 [.sl 7 ((ndsF s).map nF)] (.tup [.sl 7 (v.map nF), .val (.bool im)]) := by
  obtain ⟨h1, h2⟩ := h
  simp only [Bool.and_eq_true, decide_eq_true_eq, List.all_eq_true, okTx] at h1
  have := pvalue_ok (ndsF s) (by omega) h1.2
  rwa [h2] at this
theorem pdecls_at {s : ByteArray} {d : List Dc} (h : (decide (s.size ≤ 1000) && decide (nszs (ndsF s) < 1000) && (ndsF s).all okTx) = true ∧ decA (ndsF s) 0 = d) : PCalls Tryz.prog 19 [.sl 7 ((ndsF s).map nF)] (.sl 3 (d.map dcD)) := by
  obtain ⟨h1, h2⟩ := h
  simp only [Bool.and_eq_true, decide_eq_true_eq, List.all_eq_true, okTx] at h1
  have := pdecls_ok (ndsF s) (by omega) h1.2
  rwa [h2] at this
set_option maxHeartbeats 4000000 in
theorem awake4_ok : PCalls Tryz.prog 11 [] (.val (.bool true)) := by
  refine p_start Tryz.func11 Tryz.ntmps11 rfl rfl rfl fun S w => ?_
  repeat (first | refine awp_seq ?_ | refine a_region ?_ | refine r_done ?_ | (refine r_id ?_; first | refine r_ev tab_ok rfl rfl rfl rfl byE rfl ?_))
  refine r_built_row tab_ok rfl rfl rfl rfl rfl rfl rfl rfl rfl ?_
  refine r_mark tab_ok rfl rfl rfl rfl rfl rfl (by simp) rfl rfl rfl ?_
  refine r_call (psheet_at a41) call12 rfl rfl ⟨Sub.refl _, trivial⟩ rfl rfl rfl rfl ?_
  repeat (first | refine awp_seq ?_ | refine a_region ?_ | refine r_done ?_ | (refine r_id ?_; first | refine r_ev tab_ok rfl rfl rfl rfl byE rfl ?_))
  refine r_make tab_ok (bD 0) rfl rfl rfl rfl rfl (by decide) (by decide) (by decide) (by decide) rfl (fun _ _ => ⟨rfl, rfl⟩) rfl rfl rfl ?_
  refine r_call (show PCalls Tryz.prog 12 [.sl 1 (List.replicate (65537 : Int).toNat (bD 0))] (.tup [.sl 4 [], .val (.int .i64 3)]) by
    have := psheet_big (List.replicate (65537 : Int).toNat 0) (by rw [List.length_replicate]; decide) (by rw [List.length_replicate]; decide)
    rwa [List.map_replicate] at this) call12 rfl rfl ⟨Sub.refl _, trivial⟩ rfl rfl rfl rfl ?_
  repeat (first | refine awp_seq ?_ | refine a_region ?_ | refine r_done ?_ | (refine r_id ?_; first | refine r_ev tab_ok rfl rfl rfl rfl byE rfl ?_))
  refine r_call (nodes4_ok a4S (by decide)) call14 rfl rfl ⟨Sub.refl _, trivial⟩ rfl rfl rfl rfl ?_
  refine r_call (pvalue_at a42) call15 rfl rfl ⟨Sub.refl _, trivial⟩ rfl rfl rfl rfl ?_
  repeat (first | refine awp_seq ?_ | refine a_region ?_ | refine r_done ?_ | (refine r_id ?_; first | refine r_ev tab_ok rfl rfl rfl rfl byE rfl ?_ | refine r_idxd tab_ok rfl rfl rfl rfl rfl rfl rfl (by decide) rfl rfl rfl ?_ | refine r_pick_t rfl rfl rfl rfl rfl rfl rfl ?_ | refine r_len_on tab_ok rfl rfl rfl rfl rfl rfl rfl rfl rfl ?_ | refine r_ev_on tab_ok rfl rfl rfl rfl rfl rfl (by first | exact trivial | exact ⟨by omega, by omega⟩ | omega) rfl ?_) | refine r_g rfl rfl rfl ?_)
  refine r_call (nodes4_ok a4T (by decide)) call14 rfl rfl ⟨Sub.refl _, trivial⟩ rfl rfl rfl rfl ?_
  repeat (first | refine r_g rfl rfl rfl ?_)
  refine r_call (pdecls_at a43) call19 rfl rfl ⟨Sub.refl _, trivial⟩ rfl rfl rfl rfl ?_
  repeat (first | refine thenA_normal ?_ | refine awp_ret ?_ | refine r_done ?_ | (refine r_id ?_; first | refine r_ev tab_ok rfl rfl rfl rfl byE rfl ?_ | refine r_pick_t rfl rfl rfl rfl rfl rfl rfl ?_ | refine r_len_on tab_ok rfl rfl rfl rfl rfl rfl rfl rfl rfl ?_ | refine r_ev_on tab_ok rfl rfl rfl rfl rfl rfl (by first | exact trivial | exact ⟨by omega, by omega⟩ | omega) rfl ?_) | refine ret1 byO rfl rfl rfl ?_)
  exact Sub.refl _
end Go.Proofs.YtiolnmfaeenlmaaGreatDoor
