/- law12: Names, Inherits, Start; awake. -/
import Derived.Test.YtllmagfmbglefaaDoorPg
import Derived.Test.YtllmagfmbglefaaDoorPh
namespace Go.Proofs.YtllmagfmbglefaaDoor
open Go Go.RowKit
set_option maxRecDepth 20000

theorem fld_names : fldF namN = namL := by kernel_rfl
theorem pnames_ok : PCalls Tryd.prog 10 [] (.sl 1 (namL.map sF)) := by
  refine p_start Tryd.func10 Tryd.ntmps10 rfl rfl rfl fun S w => ?_
  repeat (first | refine awp_seq ?_ | refine a_region ?_ | refine r_done ?_ | (refine r_id ?_; first | refine r_ev tab_ok rfl rfl rfl rfl (by first | exact trivial | exact ⟨by omega, by omega⟩ | omega | exact ⟨by omega, by omega, by omega, by omega⟩ | exact Nat.le_of_ble_eq_true rfl) rfl ?_))
  refine r_call (strFields_ok namN (by decide) (by kernel_rfl)) call26 rfl rfl ⟨Sub.refl _, trivial⟩ rfl rfl rfl rfl ?_
  rw [fld_names]
  repeat (first | refine thenA_normal ?_ | refine awp_ret ?_ | refine r_done ?_ | (refine r_id ?_; first | refine r_ev tab_ok rfl rfl rfl rfl (by first | exact trivial | exact ⟨by omega, by omega⟩ | omega | exact ⟨by omega, by omega, by omega, by omega⟩ | exact Nat.le_of_ble_eq_true rfl) rfl ?_) | refine ret1 (by first | exact .inl rfl | exact .inr rfl) rfl rfl rfl ?_)
  exact Sub.refl _
def inhN : ByteArray := ⟨#[99, 111, 108, 111, 114, 32, 108, 105, 115, 116, 45, 115, 116, 121, 108, 101, 45, 116, 121, 112, 101, 32, 113, 117, 111, 116, 101, 115]⟩
theorem inherits_ok (nm : ByteArray) : PCalls Tryd.prog 29 [.val (.string nm)] (.val (.bool (inW inhN nm))) := by
  refine p_start Tryd.func29 Tryd.ntmps29 rfl rfl rfl fun S w => ?_
  repeat (first | refine awp_seq ?_ | refine a_region ?_ | refine r_done ?_ | (refine r_id ?_; first | refine r_ev tab_ok rfl rfl rfl rfl (by first | exact trivial | exact ⟨by omega, by omega⟩ | omega | exact ⟨by omega, by omega, by omega, by omega⟩ | exact Nat.le_of_ble_eq_true rfl) rfl ?_))
  refine r_call (fld_idx inhN nm (by decide) (by kernel_rfl)) call53 rfl rfl ⟨Sub.refl _, Sub.refl _, trivial⟩ rfl rfl rfl rfl ?_
  repeat (first | refine thenA_normal ?_ | refine awp_ret ?_ | refine r_done ?_ | (refine r_id ?_; first | refine r_ev tab_ok rfl rfl rfl rfl (by first | exact trivial | exact ⟨by omega, by omega⟩ | omega | exact ⟨by omega, by omega, by omega, by omega⟩ | exact Nat.le_of_ble_eq_true rfl) rfl ?_) | refine ret1 (by first | exact .inl rfl | exact .inr rfl) rfl rfl rfl ?_)
  exact Sub.refl _
def staS : Sty := { zS with disp := ⟨#[105, 110, 108, 105, 110, 101]⟩, lty := ⟨#[100, 105, 115, 99]⟩, col := ⟨#[98, 108, 97, 99, 107]⟩, normal := true, auto := true }
theorem start_ok : PCalls Tryd.prog 30 [] (stA staS) := by
  refine p_start Tryd.func30 Tryd.ntmps30 rfl rfl rfl fun S w => ?_
  repeat (first | refine awp_seq ?_ | refine thenA_normal ?_ | refine a_region ?_ | refine awp_ret ?_ | refine r_done ?_ | (refine r_id ?_; first | refine r_wr tab_ok rfl rfl rfl rfl rfl ?_ | refine r_st tab_ok rfl rfl rfl rfl ?_ | refine r_build tab_ok rfl rfl rfl rfl rfl rfl ?_))
  all_goals exact ret1c tab_ok (by first | exact .inl rfl | exact .inr rfl) rfl rfl rfl rfl rfl rfl (Sub.agg (by repeat' first | exact trivial | exact Sub.refl _ | exact Sub.nil _ | refine Sub.agg ?_ | apply And.intro))
theorem inh1 : PCalls Tryd.prog 29 [.val (.string quoS)] (.val (.bool true)) := by
  have := inherits_ok quoS
  rwa [show inW inhN quoS = true from by kernel_rfl] at this
theorem inh2 : PCalls Tryd.prog 29 [.val (.string dspS)] (.val (.bool false)) := by
  have := inherits_ok dspS
  rwa [show inW inhN dspS = false from by kernel_rfl] at this
def aw1S : ByteArray := ⟨#[99, 111, 117, 110, 116, 101, 114, 45, 105, 110, 99, 114, 101, 109, 101, 110, 116, 58, 32, 97, 32, 98, 32, 45, 50]⟩
def aw1V : Val := ⟨incS, 0, { zS with add := [⟨⟨#[97]⟩, 1, false, false⟩, ⟨⟨#[98]⟩, -2, false, false⟩] }⟩
theorem aw1 : PCalls Tryd.prog 12 [.val (.string aw1S)] (.tup [vA aw1V, .val (.int .i64 0)]) := by
  have := one_ok aw1S (by kernel_rfl)
  rwa [show oneF aw1S = (aw1V, 0) from by kernel_rfl] at this
def aw2S : ByteArray := ⟨#[99, 111, 110, 116, 101, 110, 116, 58, 32, 39, 120, 39, 32, 99, 111, 117, 110, 116, 101, 114, 115, 40, 110, 44, 32, 39, 46, 39, 44, 32, 117, 112, 112, 101, 114, 45, 114, 111, 109, 97, 110, 41, 32, 97, 116, 116, 114, 40, 73, 68, 41, 32, 111, 112, 101, 110, 45, 113, 117, 111, 116, 101]⟩
def aw2V : Val := ⟨conS, 0, { zS with cont := [⟨1, ⟨#[120]⟩, ⟨#[]⟩, ⟨#[]⟩⟩, ⟨4, ⟨#[110]⟩, ⟨#[46]⟩, ⟨#[117, 112, 112, 101, 114, 45, 114, 111, 109, 97, 110]⟩⟩, ⟨2, ⟨#[105, 100]⟩, ⟨#[]⟩, ⟨#[]⟩⟩, ⟨5, ⟨#[]⟩, ⟨#[]⟩, ⟨#[]⟩⟩] }⟩
theorem aw2 : PCalls Tryd.prog 12 [.val (.string aw2S)] (.tup [vA aw2V, .val (.int .i64 0)]) := by
  have := one_ok aw2S (by kernel_rfl)
  rwa [show oneF aw2S = (aw2V, 0) from by kernel_rfl] at this
def aw3S : ByteArray := ⟨#[113, 117, 111, 116, 101, 115, 58, 32, 39, 97, 39]⟩
def aw3V : Val := zV
theorem aw3 : PCalls Tryd.prog 12 [.val (.string aw3S)] (.tup [vA aw3V, .val (.int .i64 2)]) := by
  have := one_ok aw3S (by kernel_rfl)
  rwa [show oneF aw3S = (aw3V, 2) from by kernel_rfl] at this
def aw4S : ByteArray := ⟨#[99, 111, 117, 110, 116, 101, 114, 45, 114, 101, 115, 101, 116, 58, 32, 114, 101, 118, 101, 114, 115, 101, 100, 40, 110, 41, 32, 109, 32, 51]⟩
def aw4V : Val := ⟨rstS, 0, { zS with reset := [⟨⟨#[110]⟩, 0, true, true⟩, ⟨⟨#[109]⟩, 3, false, false⟩] }⟩
theorem aw4 : PCalls Tryd.prog 12 [.val (.string aw4S)] (.tup [vA aw4V, .val (.int .i64 0)]) := by
  have := one_ok aw4S (by kernel_rfl)
  rwa [show oneF aw4S = (aw4V, 0) from by kernel_rfl] at this
def aw5S : ByteArray := ⟨#[108, 105, 115, 116, 45, 115, 116, 121, 108, 101, 45, 116, 121, 112, 101, 58, 32, 39, 113, 39]⟩
def aw5V : Val := ⟨lstS, 0, { zS with lty := ⟨#[34, 113]⟩ }⟩
theorem aw5 : PCalls Tryd.prog 12 [.val (.string aw5S)] (.tup [vA aw5V, .val (.int .i64 0)]) := by
  have := one_ok aw5S (by kernel_rfl)
  rwa [show oneF aw5S = (aw5V, 0) from by kernel_rfl] at this
def aw6S : ByteArray := ⟨#[99, 111, 108, 111, 114, 58, 32, 73, 78, 72, 69, 82, 73, 84]⟩
def aw6V : Val := ⟨colS, 1, zS⟩
theorem aw6 : PCalls Tryd.prog 12 [.val (.string aw6S)] (.tup [vA aw6V, .val (.int .i64 0)]) := by
  have := one_ok aw6S (by kernel_rfl)
  rwa [show oneF aw6S = (aw6V, 0) from by kernel_rfl] at this
set_option maxHeartbeats 4000000 in
theorem awake_ok : PCalls Tryd.prog 13 [] (.val (.bool true)) := by
  refine p_start Tryd.func13 Tryd.ntmps13 rfl rfl rfl fun S w => ?_
  repeat (first | refine awp_seq ?_ | refine a_region ?_ | refine r_done ?_ | (refine r_id ?_; first | refine r_ev tab_ok rfl rfl rfl rfl (by first | exact trivial | exact ⟨by omega, by omega⟩ | omega | exact ⟨by omega, by omega, by omega, by omega⟩ | exact Nat.le_of_ble_eq_true rfl) rfl ?_))
  refine r_call aw1 call12 rfl rfl ⟨Sub.refl _, trivial⟩ rfl rfl rfl rfl ?_
  repeat (first | refine awp_seq ?_ | refine a_region ?_ | refine r_done ?_ | (refine r_id ?_; first | refine r_ev tab_ok rfl rfl rfl rfl (by first | exact trivial | exact ⟨by omega, by omega⟩ | omega | exact ⟨by omega, by omega, by omega, by omega⟩ | exact Nat.le_of_ble_eq_true rfl) rfl ?_ | refine r_wr tab_ok rfl rfl rfl rfl rfl ?_ | refine r_st tab_ok rfl rfl rfl rfl ?_))
  refine r_call aw2 call12 rfl rfl ⟨Sub.refl _, trivial⟩ rfl rfl rfl rfl ?_
  repeat (first | refine awp_seq ?_ | refine a_region ?_ | refine r_done ?_ | (refine r_id ?_; first | refine r_ev tab_ok rfl rfl rfl rfl (by first | exact trivial | exact ⟨by omega, by omega⟩ | omega | exact ⟨by omega, by omega, by omega, by omega⟩ | exact Nat.le_of_ble_eq_true rfl) rfl ?_ | refine r_wr tab_ok rfl rfl rfl rfl rfl ?_ | refine r_st tab_ok rfl rfl rfl rfl ?_))
  refine r_call aw3 call12 rfl rfl ⟨Sub.refl _, trivial⟩ rfl rfl rfl rfl ?_
  repeat (first | refine awp_seq ?_ | refine a_region ?_ | refine r_done ?_ | (refine r_id ?_; first | refine r_ev tab_ok rfl rfl rfl rfl (by first | exact trivial | exact ⟨by omega, by omega⟩ | omega | exact ⟨by omega, by omega, by omega, by omega⟩ | exact Nat.le_of_ble_eq_true rfl) rfl ?_ | refine r_wr tab_ok rfl rfl rfl rfl rfl ?_ | refine r_st tab_ok rfl rfl rfl rfl ?_))
  refine r_call aw4 call12 rfl rfl ⟨Sub.refl _, trivial⟩ rfl rfl rfl rfl ?_
  repeat (first | refine awp_seq ?_ | refine a_region ?_ | refine r_done ?_ | (refine r_id ?_; first | refine r_ev tab_ok rfl rfl rfl rfl (by first | exact trivial | exact ⟨by omega, by omega⟩ | omega | exact ⟨by omega, by omega, by omega, by omega⟩ | exact Nat.le_of_ble_eq_true rfl) rfl ?_ | refine r_wr tab_ok rfl rfl rfl rfl rfl ?_ | refine r_st tab_ok rfl rfl rfl rfl ?_))
  refine r_call aw5 call12 rfl rfl ⟨Sub.refl _, trivial⟩ rfl rfl rfl rfl ?_
  repeat (first | refine awp_seq ?_ | refine a_region ?_ | refine r_done ?_ | (refine r_id ?_; first | refine r_ev tab_ok rfl rfl rfl rfl (by first | exact trivial | exact ⟨by omega, by omega⟩ | omega | exact ⟨by omega, by omega, by omega, by omega⟩ | exact Nat.le_of_ble_eq_true rfl) rfl ?_ | refine r_wr tab_ok rfl rfl rfl rfl rfl ?_ | refine r_st tab_ok rfl rfl rfl rfl ?_))
  refine r_call aw6 call12 rfl rfl ⟨Sub.refl _, trivial⟩ rfl rfl rfl rfl ?_
  repeat (first | refine awp_seq ?_ | refine a_region ?_ | refine r_done ?_ | (refine r_id ?_; first | refine r_ev tab_ok rfl rfl rfl rfl (by first | exact trivial | exact ⟨by omega, by omega⟩ | omega | exact ⟨by omega, by omega, by omega, by omega⟩ | exact Nat.le_of_ble_eq_true rfl) rfl ?_ | refine r_idxd tab_ok rfl rfl rfl rfl rfl rfl rfl (by decide) rfl rfl rfl ?_ | refine r_wr tab_ok rfl rfl rfl rfl rfl ?_ | refine r_st tab_ok rfl rfl rfl rfl ?_ | refine r_pick_t rfl rfl rfl rfl rfl rfl rfl ?_ | refine r_len_on tab_ok rfl rfl rfl rfl rfl rfl rfl rfl rfl ?_ | refine r_ev_on tab_ok rfl rfl rfl rfl rfl rfl (by first | exact trivial | exact ⟨by omega, by omega⟩ | omega) rfl ?_ | refine r_ld_on tab_ok rfl rfl rfl rfl rfl rfl rfl ?_ | refine r_build tab_ok rfl rfl rfl rfl rfl rfl ?_) | refine r_g rfl rfl rfl ?_)
  refine r_eqPr (c := ⟨⟨#[97]⟩, 1, false, false⟩) (d := ⟨⟨#[97]⟩, 1, false, false⟩) rfl rfl rfl rfl rfl rfl rfl ?_
  rw [eqPr_self]
  repeat (first | (refine r_id ?_; first | refine r_ev tab_ok rfl rfl rfl rfl (by first | exact trivial | exact ⟨by omega, by omega⟩ | omega | exact ⟨by omega, by omega, by omega, by omega⟩ | exact Nat.le_of_ble_eq_true rfl) rfl ?_ | refine r_idxd tab_ok rfl rfl rfl rfl rfl rfl rfl (by decide) rfl rfl rfl ?_ | refine r_pick_t rfl rfl rfl rfl rfl rfl rfl ?_ | refine r_len_on tab_ok rfl rfl rfl rfl rfl rfl rfl rfl rfl ?_ | refine r_ev_on tab_ok rfl rfl rfl rfl rfl rfl (by first | exact trivial | exact ⟨by omega, by omega⟩ | omega) rfl ?_ | refine r_ld_on tab_ok rfl rfl rfl rfl rfl rfl rfl ?_ | refine r_build tab_ok rfl rfl rfl rfl rfl rfl ?_) | refine r_g rfl rfl rfl ?_)
  refine r_eqIt (c := ⟨4, ⟨#[110]⟩, ⟨#[46]⟩, ⟨#[117, 112, 112, 101, 114, 45, 114, 111, 109, 97, 110]⟩⟩) (d := ⟨4, ⟨#[110]⟩, ⟨#[46]⟩, ⟨#[117, 112, 112, 101, 114, 45, 114, 111, 109, 97, 110]⟩⟩) rfl rfl rfl rfl rfl rfl rfl ?_
  rw [eqIt_self]
  repeat (first | (refine r_id ?_; first | refine r_ev tab_ok rfl rfl rfl rfl (by first | exact trivial | exact ⟨by omega, by omega⟩ | omega | exact ⟨by omega, by omega, by omega, by omega⟩ | exact Nat.le_of_ble_eq_true rfl) rfl ?_ | refine r_idxd tab_ok rfl rfl rfl rfl rfl rfl rfl (by decide) rfl rfl rfl ?_ | refine r_pick_t rfl rfl rfl rfl rfl rfl rfl ?_ | refine r_ev_on tab_ok rfl rfl rfl rfl rfl rfl (by first | exact trivial | exact ⟨by omega, by omega⟩ | omega) rfl ?_ | refine r_ld_on tab_ok rfl rfl rfl rfl rfl rfl rfl ?_ | refine r_build tab_ok rfl rfl rfl rfl rfl rfl ?_) | refine r_g rfl rfl rfl ?_)
  refine r_eqPr (c := ⟨⟨#[110]⟩, 0, true, true⟩) (d := ⟨⟨#[110]⟩, 0, true, true⟩) rfl rfl rfl rfl rfl rfl rfl ?_
  rw [eqPr_self]
  repeat (first | (refine r_id ?_; first | refine r_ev tab_ok rfl rfl rfl rfl (by first | exact trivial | exact ⟨by omega, by omega⟩ | omega | exact ⟨by omega, by omega, by omega, by omega⟩ | exact Nat.le_of_ble_eq_true rfl) rfl ?_ | refine r_pick_t rfl rfl rfl rfl rfl rfl rfl ?_ | refine r_ev_on tab_ok rfl rfl rfl rfl rfl rfl (by first | exact trivial | exact ⟨by omega, by omega⟩ | omega) rfl ?_ | refine r_ld_on tab_ok rfl rfl rfl rfl rfl rfl rfl ?_) | refine r_g rfl rfl rfl ?_)
  refine r_call pnames_ok call10 rfl rfl trivial rfl rfl rfl rfl ?_
  repeat (first | (refine r_id ?_; first | refine r_ev tab_ok rfl rfl rfl rfl (by first | exact trivial | exact ⟨by omega, by omega⟩ | omega | exact ⟨by omega, by omega, by omega, by omega⟩ | exact Nat.le_of_ble_eq_true rfl) rfl ?_ | refine r_pick_t rfl rfl rfl rfl rfl rfl rfl ?_ | refine r_len_on tab_ok rfl rfl rfl rfl rfl rfl rfl rfl rfl ?_ | refine r_ev_on tab_ok rfl rfl rfl rfl rfl rfl (by first | exact trivial | exact ⟨by omega, by omega⟩ | omega) rfl ?_) | refine r_g rfl rfl rfl ?_)
  refine r_call inh1 call29 rfl rfl ⟨Sub.refl _, trivial⟩ rfl rfl rfl rfl ?_
  repeat (first | (refine r_id ?_; first | refine r_ev tab_ok rfl rfl rfl rfl (by first | exact trivial | exact ⟨by omega, by omega⟩ | omega | exact ⟨by omega, by omega, by omega, by omega⟩ | exact Nat.le_of_ble_eq_true rfl) rfl ?_ | refine r_pick_t rfl rfl rfl rfl rfl rfl rfl ?_) | refine r_g rfl rfl rfl ?_)
  refine r_call inh2 call29 rfl rfl ⟨Sub.refl _, trivial⟩ rfl rfl rfl rfl ?_
  repeat (first | (refine r_id ?_; first | refine r_ev tab_ok rfl rfl rfl rfl (by first | exact trivial | exact ⟨by omega, by omega⟩ | omega | exact ⟨by omega, by omega, by omega, by omega⟩ | exact Nat.le_of_ble_eq_true rfl) rfl ?_ | refine r_pick_t rfl rfl rfl rfl rfl rfl rfl ?_ | refine r_ev_on tab_ok rfl rfl rfl rfl rfl rfl (by first | exact trivial | exact ⟨by omega, by omega⟩ | omega) rfl ?_) | refine r_g rfl rfl rfl ?_)
  refine r_call start_ok call30 rfl rfl trivial rfl rfl rfl rfl ?_
  repeat (first | refine thenA_normal ?_ | refine awp_ret ?_ | refine r_done ?_ | (refine r_id ?_; first | refine r_ev tab_ok rfl rfl rfl rfl (by first | exact trivial | exact ⟨by omega, by omega⟩ | omega | exact ⟨by omega, by omega, by omega, by omega⟩ | exact Nat.le_of_ble_eq_true rfl) rfl ?_ | refine r_pick_t rfl rfl rfl rfl rfl rfl rfl ?_ | refine r_ev_on tab_ok rfl rfl rfl rfl rfl rfl (by first | exact trivial | exact ⟨by omega, by omega⟩ | omega) rfl ?_) | refine ret1 (by first | exact .inl rfl | exact .inr rfl) rfl rfl rfl ?_)
  exact Sub.refl _
end Go.Proofs.YtllmagfmbglefaaDoor
