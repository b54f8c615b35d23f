import Derived.Test.YtiolnmfaeenlmaaGreatDoorRg
import Derived.Test.YtiolnmfaeenlmaaGreatDoorU5
import Derived.Test.YtiolnmfaeenlmaaGreatDoorKd
import Derived.Test.YtiolnmfaeenlmaaGreatDoorF4
/- agent.Rules and the reference's Sheet of the agent's text. -/
namespace Go.Proofs.YtiolnmfaeenlmaaGreatDoor
open Go Go.RowKit
set_option maxRecDepth 20000

def lf (t : Tk) : Nd := .mk t []
def agB : List UInt8 := ([104, 116, 109, 108, 44, 32, 98, 111, 100, 121, 44, 32, 100, 105, 118, 44, 32, 112, 44, 32, 111, 108, 44, 32, 117, 108, 44, 32, 109, 101, 110, 117, 44, 32, 104, 49, 44, 32, 104, 50, 44, 32, 104, 51, 44, 32, 115, 101, 99, 116, 105, 111, 110, 32, 123, 32, 100, 105, 115, 112, 108, 97, 121, 58, 32, 98, 108, 111, 99, 107, 32, 125, 32, 108, 105, 32, 123, 32, 100, 105, 115, 112, 108, 97, 121, 58, 32, 108, 105, 115, 116, 45, 105, 116, 101, 109, 32, 125, 32, 104, 101, 97, 100, 44, 32, 115, 116, 121, 108, 101, 44, 32, 115, 99, 114, 105, 112, 116, 44, 32, 116, 105, 116, 108, 101, 44, 32, 116, 101, 109, 112, 108, 97, 116, 101, 32, 123, 32, 100, 105, 115, 112, 108, 97, 121, 58, 32, 110, 111, 110, 101, 32, 125, 32, 111, 108, 32, 123, 32, 108, 105, 115, 116, 45, 115, 116, 121, 108, 101, 45, 116, 121, 112, 101, 58, 32, 100, 101, 99, 105, 109, 97, 108, 32, 125, 32, 117, 108, 44, 32, 109, 101, 110, 117, 32, 123, 32, 108, 105, 115, 116, 45, 115, 116, 121, 108, 101, 45, 116, 121, 112, 101, 58, 32, 100, 105, 115, 99, 32, 125, 32, 117, 108, 32, 117, 108, 44, 32, 111, 108, 32, 117, 108, 32, 123, 32, 108, 105, 115, 116, 45, 115, 116, 121, 108, 101, 45, 116, 121, 112, 101, 58, 32, 99, 105, 114, 99, 108, 101, 32, 125, 32, 113, 58, 58, 98, 101, 102, 111, 114, 101, 32, 123, 32, 99, 111, 110, 116, 101, 110, 116, 58, 32, 111, 112, 101, 110, 45, 113, 117, 111, 116, 101, 32, 125, 32, 113, 58, 58, 97, 102, 116, 101, 114, 32, 123, 32, 99, 111, 110, 116, 101, 110, 116, 58, 32, 99, 108, 111, 115, 101, 45, 113, 117, 111, 116, 101, 32, 125] : List UInt8)
def agS : ByteArray := ⟨agB.toArray⟩
def agR0 : Rl := ⟨⟨#[]⟩, [lf ⟨1, ⟨#[104, 116, 109, 108]⟩, 0, false, false, false⟩, lf ⟨18, ⟨#[]⟩, 0, false, false, false⟩, lf ⟨13, ⟨#[]⟩, 0, false, false, false⟩, lf ⟨1, ⟨#[98, 111, 100, 121]⟩, 0, false, false, false⟩, lf ⟨18, ⟨#[]⟩, 0, false, false, false⟩, lf ⟨13, ⟨#[]⟩, 0, false, false, false⟩, lf ⟨1, ⟨#[100, 105, 118]⟩, 0, false, false, false⟩, lf ⟨18, ⟨#[]⟩, 0, false, false, false⟩, lf ⟨13, ⟨#[]⟩, 0, false, false, false⟩, lf ⟨1, ⟨#[112]⟩, 0, false, false, false⟩, lf ⟨18, ⟨#[]⟩, 0, false, false, false⟩, lf ⟨13, ⟨#[]⟩, 0, false, false, false⟩, lf ⟨1, ⟨#[111, 108]⟩, 0, false, false, false⟩, lf ⟨18, ⟨#[]⟩, 0, false, false, false⟩, lf ⟨13, ⟨#[]⟩, 0, false, false, false⟩, lf ⟨1, ⟨#[117, 108]⟩, 0, false, false, false⟩, lf ⟨18, ⟨#[]⟩, 0, false, false, false⟩, lf ⟨13, ⟨#[]⟩, 0, false, false, false⟩, lf ⟨1, ⟨#[109, 101, 110, 117]⟩, 0, false, false, false⟩, lf ⟨18, ⟨#[]⟩, 0, false, false, false⟩, lf ⟨13, ⟨#[]⟩, 0, false, false, false⟩, lf ⟨1, ⟨#[104, 49]⟩, 0, false, false, false⟩, lf ⟨18, ⟨#[]⟩, 0, false, false, false⟩, lf ⟨13, ⟨#[]⟩, 0, false, false, false⟩, lf ⟨1, ⟨#[104, 50]⟩, 0, false, false, false⟩, lf ⟨18, ⟨#[]⟩, 0, false, false, false⟩, lf ⟨13, ⟨#[]⟩, 0, false, false, false⟩, lf ⟨1, ⟨#[104, 51]⟩, 0, false, false, false⟩, lf ⟨18, ⟨#[]⟩, 0, false, false, false⟩, lf ⟨13, ⟨#[]⟩, 0, false, false, false⟩, lf ⟨1, ⟨#[115, 101, 99, 116, 105, 111, 110]⟩, 0, false, false, false⟩], true, [⟨⟨#[100, 105, 115, 112, 108, 97, 121]⟩, [lf ⟨1, ⟨#[98, 108, 111, 99, 107]⟩, 0, false, false, false⟩], false⟩]⟩
def agR1 : Rl := ⟨⟨#[]⟩, [lf ⟨1, ⟨#[108, 105]⟩, 0, false, false, false⟩], true, [⟨⟨#[100, 105, 115, 112, 108, 97, 121]⟩, [lf ⟨1, ⟨#[108, 105, 115, 116, 45, 105, 116, 101, 109]⟩, 0, false, false, false⟩], false⟩]⟩
def agR2 : Rl := ⟨⟨#[]⟩, [lf ⟨1, ⟨#[104, 101, 97, 100]⟩, 0, false, false, false⟩, lf ⟨18, ⟨#[]⟩, 0, false, false, false⟩, lf ⟨13, ⟨#[]⟩, 0, false, false, false⟩, lf ⟨1, ⟨#[115, 116, 121, 108, 101]⟩, 0, false, false, false⟩, lf ⟨18, ⟨#[]⟩, 0, false, false, false⟩, lf ⟨13, ⟨#[]⟩, 0, false, false, false⟩, lf ⟨1, ⟨#[115, 99, 114, 105, 112, 116]⟩, 0, false, false, false⟩, lf ⟨18, ⟨#[]⟩, 0, false, false, false⟩, lf ⟨13, ⟨#[]⟩, 0, false, false, false⟩, lf ⟨1, ⟨#[116, 105, 116, 108, 101]⟩, 0, false, false, false⟩, lf ⟨18, ⟨#[]⟩, 0, false, false, false⟩, lf ⟨13, ⟨#[]⟩, 0, false, false, false⟩, lf ⟨1, ⟨#[116, 101, 109, 112, 108, 97, 116, 101]⟩, 0, false, false, false⟩], true, [⟨⟨#[100, 105, 115, 112, 108, 97, 121]⟩, [lf ⟨1, ⟨#[110, 111, 110, 101]⟩, 0, false, false, false⟩], false⟩]⟩
def agR3 : Rl := ⟨⟨#[]⟩, [lf ⟨1, ⟨#[111, 108]⟩, 0, false, false, false⟩], true, [⟨⟨#[108, 105, 115, 116, 45, 115, 116, 121, 108, 101, 45, 116, 121, 112, 101]⟩, [lf ⟨1, ⟨#[100, 101, 99, 105, 109, 97, 108]⟩, 0, false, false, false⟩], false⟩]⟩
def agR4 : Rl := ⟨⟨#[]⟩, [lf ⟨1, ⟨#[117, 108]⟩, 0, false, false, false⟩, lf ⟨18, ⟨#[]⟩, 0, false, false, false⟩, lf ⟨13, ⟨#[]⟩, 0, false, false, false⟩, lf ⟨1, ⟨#[109, 101, 110, 117]⟩, 0, false, false, false⟩], true, [⟨⟨#[108, 105, 115, 116, 45, 115, 116, 121, 108, 101, 45, 116, 121, 112, 101]⟩, [lf ⟨1, ⟨#[100, 105, 115, 99]⟩, 0, false, false, false⟩], false⟩]⟩
def agR5 : Rl := ⟨⟨#[]⟩, [lf ⟨1, ⟨#[117, 108]⟩, 0, false, false, false⟩, lf ⟨13, ⟨#[]⟩, 0, false, false, false⟩, lf ⟨1, ⟨#[117, 108]⟩, 0, false, false, false⟩, lf ⟨18, ⟨#[]⟩, 0, false, false, false⟩, lf ⟨13, ⟨#[]⟩, 0, false, false, false⟩, lf ⟨1, ⟨#[111, 108]⟩, 0, false, false, false⟩, lf ⟨13, ⟨#[]⟩, 0, false, false, false⟩, lf ⟨1, ⟨#[117, 108]⟩, 0, false, false, false⟩], true, [⟨⟨#[108, 105, 115, 116, 45, 115, 116, 121, 108, 101, 45, 116, 121, 112, 101]⟩, [lf ⟨1, ⟨#[99, 105, 114, 99, 108, 101]⟩, 0, false, false, false⟩], false⟩]⟩
def agR6 : Rl := ⟨⟨#[]⟩, [lf ⟨1, ⟨#[113]⟩, 0, false, false, false⟩, lf ⟨16, ⟨#[]⟩, 0, false, false, false⟩, lf ⟨16, ⟨#[]⟩, 0, false, false, false⟩, lf ⟨1, ⟨#[98, 101, 102, 111, 114, 101]⟩, 0, false, false, false⟩], true, [⟨⟨#[99, 111, 110, 116, 101, 110, 116]⟩, [lf ⟨1, ⟨#[111, 112, 101, 110, 45, 113, 117, 111, 116, 101]⟩, 0, false, false, false⟩], false⟩]⟩
def agR7 : Rl := ⟨⟨#[]⟩, [lf ⟨1, ⟨#[113]⟩, 0, false, false, false⟩, lf ⟨16, ⟨#[]⟩, 0, false, false, false⟩, lf ⟨16, ⟨#[]⟩, 0, false, false, false⟩, lf ⟨1, ⟨#[97, 102, 116, 101, 114]⟩, 0, false, false, false⟩], true, [⟨⟨#[99, 111, 110, 116, 101, 110, 116]⟩, [lf ⟨1, ⟨#[99, 108, 111, 115, 101, 45, 113, 117, 111, 116, 101]⟩, 0, false, false, false⟩], false⟩]⟩
def agR : List Rl := [agR0, agR1, agR2, agR3, agR4, agR5, agR6, agR7]
def okTx (n : Nd) : Bool := decide (n.tok.text.size ≤ 1099511627776)
def atNB (l : List Nd) : Bool := l.all fun n => !atKB n || !decide (lowS n.tok.text = ⟨#[]⟩)
theorem atN_of {l : List Nd} (h : atNB l = true) : atN l := by
  intro n hn ha
  have := List.all_eq_true.1 h n hn
  rw [ha, Bool.not_true, Bool.false_or, Bool.not_eq_true', decide_eq_false_iff_not] at this
  exact this
/-- All that psheet_ok asks of a text. -/
def okPs (b : List UInt8) : Bool := decide (b.length ≤ 65536) && (readL ⟨b.toArray⟩).all (fun x => decide (0 ≤ x)) && atNB (allF b) && (allF b).all (fun n => okTx n && n.kids.all okTx)
theorem psheet_at {b : List UInt8} {l : List Rl} {e : Int} (h : okPs b = true ∧ shE b = (l, e)) : PCalls Tryz.prog 12 [.sl 1 (b.map bD)] (.tup [.sl 4 (l.map rlD), .val (.int .i64 e)]) := by
  obtain ⟨h1, h2⟩ := h
  simp only [okPs, Bool.and_eq_true, decide_eq_true_eq, List.all_eq_true, okTx] at h1
  obtain ⟨⟨⟨h3, h4⟩, h5⟩, h6⟩ := h1
  have := psheet_ok b h3 h4 (atN_of h5) (fun n hn => (h6 n hn).1) (fun n hn m hm => (h6 n hn).2 m hm)
  rw [h2] at this
  exact this
def ndR (b : List UInt8) : List Nd := nodesA (toksF (readL ⟨b.toArray⟩)) 0
def okRs (b : List UInt8) : Bool := decide (b.length ≤ 65536) && (ndR b).all (fun n => okTx n && n.kids.all okTx) && decide ((shtA (ndR b) 0).length ≤ 500)
theorem rsheet_at {b : List UInt8} {l : List Rl} (h : okRs b = true ∧ shtA (ndR b) 0 = l) : PCalls Tryz.prog 13 [.sl 1 (b.map bD)] (.tup [.sl 4 (l.map rlD), .val (.int .i64 0)]) := by
  obtain ⟨h1, rfl⟩ := h
  simp only [okRs, Bool.and_eq_true, decide_eq_true_eq, List.all_eq_true, okTx] at h1
  obtain ⟨⟨h3, h4⟩, h5⟩ := h1
  exact sheet_ok b h3 (fun n hn => (h4 n hn).1) (fun n hn m hm => (h4 n hn).2 m hm) h5
theorem ag1 : okPs agB = true ∧ shE agB = (agR, 0) := ⟨by kernel_rfl, by kernel_rfl⟩
theorem ag2 : okRs agB = true ∧ shtA (ndR agB) 0 = agR := ⟨by kernel_rfl, by kernel_rfl⟩
theorem agRules_ok : PCalls Tryz.prog 24 [] (.sl 4 (agR.map rlD)) := by
  refine p_start Tryz.func24 Tryz.ntmps24 rfl rfl rfl fun S w => ?_
  repeat (first | refine awp_seq ?_ | refine a_region ?_ | refine r_done ?_ | (refine r_id ?_; first | refine r_ev tab_ok rfl rfl rfl rfl byE rfl ?_))
  refine r_built_row tab_ok rfl rfl rfl rfl rfl rfl rfl rfl rfl ?_
  refine r_mark tab_ok rfl rfl rfl rfl rfl rfl (by simp) rfl rfl rfl ?_
  refine r_call (psheet_at ag1) call12 rfl rfl ⟨Sub.refl _, trivial⟩ rfl rfl rfl rfl ?_
  repeat (first | refine awp_seq ?_ | refine thenA_normal ?_ | refine a_region ?_ | refine awp_ret ?_ | refine r_done ?_ | (refine r_id ?_; first | refine r_ev tab_ok rfl rfl rfl rfl byE rfl ?_) | refine ret1 byO rfl rfl rfl ?_)
  exact Sub.refl _
theorem agAgent_ok : PCalls Tryz.prog 49 [] (.val (.string agS)) := by
  refine p_start Tryz.func49 Tryz.ntmps49 rfl rfl rfl fun S w => ?_
  repeat (first | refine awp_seq ?_ | refine thenA_normal ?_ | refine a_region ?_ | refine awp_ret ?_ | refine r_done ?_ | (refine r_id ?_; first | refine r_ev tab_ok rfl rfl rfl rfl byE rfl ?_) | refine ret1 byO rfl rfl rfl ?_)
  exact Sub.refl _
theorem agText_ok : PCalls Tryz.prog 50 [] (.val (.string agS)) := by
  refine p_start Tryz.func50 Tryz.ntmps50 rfl rfl rfl fun S w => ?_
  repeat (first | refine awp_seq ?_ | refine thenA_normal ?_ | refine a_region ?_ | refine awp_ret ?_ | refine r_done ?_ | (refine r_id ?_; first | refine r_ev tab_ok rfl rfl rfl rfl byE rfl ?_) | refine ret1 byO rfl rfl rfl ?_)
  exact Sub.refl _
theorem agSame : PCalls Tryz.prog 17 [.sl 4 (agR.map rlD), .sl 4 (agR.map rlD)] (.val (.bool true)) :=
  srules_self agR (by decide) (fun r hr => by
    have h : agR.all (fun r => decide (nszs r.pre < 549755813888) && decide (r.decls.length ≤ 1099511627776) && r.decls.all (fun d => decide (nszs d.value < 549755813888))) = true := by kernel_rfl
    have := List.all_eq_true.1 h r hr
    simp only [Bool.and_eq_true, decide_eq_true_eq, List.all_eq_true] at this
    exact ⟨this.1.1, this.1.2, this.2⟩)
set_option maxHeartbeats 4000000 in
theorem awake21_ok : PCalls Tryz.prog 25 [] (.val (.bool true)) := by
  refine p_start Tryz.func25 Tryz.ntmps25 rfl rfl rfl fun S w => ?_
  repeat (first | refine awp_seq ?_ | refine a_region ?_ | refine r_done ?_ | (refine r_id ?_; first | refine r_ev tab_ok rfl rfl rfl rfl byE rfl ?_))
  refine r_call agAgent_ok call49 rfl rfl trivial rfl rfl rfl rfl ?_
  have hsz : agS.size ≤ 1000 := by decide
  repeat (first | (refine r_id ?_; first | refine r_strd tab_ok rfl rfl rfl rfl rfl rfl (by omega) rfl rfl rfl ?_))
  refine r_call (show PCalls Tryz.prog 13 [.sl 1 (agS.data.toList.map bD)] (.tup [.sl 4 (agR.map rlD), .val (.int .i64 0)]) from rsheet_at ag2) call13 rfl rfl ⟨Sub.refl _, trivial⟩ rfl rfl rfl rfl ?_
  repeat (first | refine awp_seq ?_ | refine a_region ?_ | refine r_done ?_ | (refine r_id ?_; first | refine r_ev tab_ok rfl rfl rfl rfl byE rfl ?_))
  refine r_call agText_ok call50 rfl rfl trivial rfl rfl rfl rfl ?_
  refine r_call agAgent_ok call49 rfl rfl trivial rfl rfl rfl rfl ?_
  repeat (first | (refine r_id ?_; first | refine r_ev tab_ok rfl rfl rfl rfl byE rfl ?_ | refine r_pick_t rfl rfl rfl rfl rfl rfl rfl ?_ | refine r_ev_on tab_ok rfl rfl rfl rfl rfl rfl (by first | exact trivial | exact ⟨by omega, by omega⟩ | omega) rfl ?_) | refine r_g rfl rfl rfl ?_)
  refine r_call agRules_ok call24 rfl rfl trivial rfl rfl rfl rfl ?_
  repeat (first | (refine r_id ?_; first | refine r_ev_on tab_ok rfl rfl rfl rfl rfl rfl (by first | exact trivial | exact ⟨by omega, by omega⟩ | omega) rfl ?_) | refine r_g rfl rfl rfl ?_)
  refine r_call agSame call17 rfl rfl ⟨Sub.refl _, Sub.refl _, trivial⟩ rfl rfl rfl rfl ?_
  repeat (first | refine thenA_normal ?_ | refine awp_ret ?_ | refine r_done ?_ | (refine r_id ?_; first | refine r_ev tab_ok rfl rfl rfl rfl byE rfl ?_ | refine r_pick_t rfl rfl rfl rfl rfl rfl rfl ?_ | refine r_len_on tab_ok rfl rfl rfl rfl rfl rfl rfl rfl rfl ?_ | refine r_ev_on tab_ok rfl rfl rfl rfl rfl rfl (by first | exact trivial | exact ⟨by omega, by omega⟩ | omega) rfl ?_) | refine ret1 byO rfl rfl rfl ?_)
  exact Sub.refl _
end Go.Proofs.YtiolnmfaeenlmaaGreatDoor

/- Texts to tokens and nodes. -/
namespace Go.Proofs.YtiolnmfaeenlmaaGreatDoor
open Go Go.RowKit
set_option maxRecDepth 20000

def toks (s : ByteArray) : List Tk := toksF (readL s)
def ndsF (s : ByteArray) : List Nd := nodesA (toks s) 0
def okT (n : Nd) : Bool := decide (n.tok.text.size ≤ 1099511627776)
end Go.Proofs.YtiolnmfaeenlmaaGreatDoor

/- Round, Texts of a thing and itself. -/
namespace Go.Proofs.YtiolnmfaeenlmaaGreatDoor
open Go Go.RowKit
set_option maxRecDepth 20000

theorem round_eq (k n : Int) (hn : 0 < n) : (k.tmod n + n).tmod n = k % n := by
  have h1 := Int.tmod_lt_of_pos k hn
  have h2 := Int.lt_tmod_of_pos k hn
  rw [Int.tmod_eq_emod_of_nonneg (by omega), Int.add_emod_right, Int.tmod_eq_emod]
  split
  · simp
  · rw [Int.sub_emod, Int.emod_emod_of_dvd _ (Int.dvd_refl n)]
    have : ((n.natAbs : Int)) % n = 0 := by rw [Int.natAbs_of_nonneg (by omega)]; exact Int.emod_self
    rw [this]; simp
end Go.Proofs.YtiolnmfaeenlmaaGreatDoor

/- law4: nodes of a text; awake. -/
namespace Go.Proofs.YtiolnmfaeenlmaaGreatDoor
open Go Go.RowKit
set_option maxRecDepth 20000

def a4B : List UInt8 := [64, 120, 32, 97, 59, 32, 98, 44, 32, 99, 32, 123, 32, 100, 32, 58, 32, 101, 32, 33, 105, 109, 112, 111, 114, 116, 97, 110, 116, 59, 32, 102, 59, 32, 103, 58, 104, 32, 125, 32, 105]
def a4R0 : Rl := ⟨⟨#[120]⟩, [lf ⟨1, ⟨#[97]⟩, 0, false, false, false⟩], false, []⟩
def a4R1 : Rl := ⟨⟨#[]⟩, [lf ⟨1, ⟨#[98]⟩, 0, false, false, false⟩, lf ⟨18, ⟨#[]⟩, 0, false, false, false⟩, lf ⟨13, ⟨#[]⟩, 0, false, false, false⟩, lf ⟨1, ⟨#[99]⟩, 0, false, false, false⟩], true, [⟨⟨#[100]⟩, [lf ⟨1, ⟨#[101]⟩, 0, false, false, false⟩], true⟩, ⟨⟨#[103]⟩, [lf ⟨1, ⟨#[104]⟩, 0, false, false, false⟩], false⟩]⟩
def a4S : ByteArray := ⟨#[32, 97, 32, 33, 32, 73, 77, 80, 79, 82, 84, 65, 78, 84, 32]⟩
def a4V : List Nd := [lf ⟨1, ⟨#[97]⟩, 0, false, false, false⟩]
def a4T : ByteArray := ⟨#[97, 58, 98, 59, 59, 99, 58, 33]⟩
def a4D : List Dc := [⟨⟨#[97]⟩, [lf ⟨1, ⟨#[98]⟩, 0, false, false, false⟩], false⟩]
end Go.Proofs.YtiolnmfaeenlmaaGreatDoor
