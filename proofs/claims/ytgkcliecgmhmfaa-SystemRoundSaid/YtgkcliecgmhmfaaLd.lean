/- Counter styles: what the document fixes (awake). Numbers of law9's seat. -/
import Derived.Test.YtgkcliecgmhmfaaLc
namespace Go.Proofs.Ytgkcliecgmhmfaa
open Go Go.RowKit Go.Shelf

def mk (s : ByteArray) (l : List ByteArray) : Df := ⟨⟨#[]⟩, s, 1, l, [], ⟨#[]⟩, ⟨#[]⟩, ⟨#[]⟩, ⟨#[]⟩, true, [], 0, ⟨#[]⟩, ⟨#[]⟩, ⟨#[]⟩, 0⟩
def rmD : Df := { mk additiveS [⟨#[120]⟩, ⟨#[118]⟩, ⟨#[105]⟩] with ws := [10, 5, 1] }
theorem sg1 : signsF (mk alphabeticS [⟨#[97]⟩, ⟨#[98]⟩]) 3 = (⟨#[97, 97]⟩, true) := by kernel_rfl
theorem sg2 : signsF (mk numericS [⟨#[48]⟩, ⟨#[49]⟩]) 5 = (⟨#[49, 48, 49]⟩, true) := by kernel_rfl
theorem sg3 : signsF (mk symbolicS [⟨#[120]⟩, ⟨#[121]⟩]) 4 = (⟨#[121, 121]⟩, true) := by kernel_rfl
theorem sg4 : signsF (mk cyclicS [⟨#[120]⟩, ⟨#[121]⟩]) (-1) = (⟨#[120]⟩, true) := by kernel_rfl
theorem sg5 : signsF (mk fixedS [⟨#[120]⟩, ⟨#[121]⟩]) 3 = (⟨#[]⟩, false) := by kernel_rfl
theorem sg6 : signsF rmD 27 = (⟨#[120, 120, 118, 105, 105]⟩, true) := by kernel_rfl
theorem my1 : mayF rmD = true := by kernel_rfl
theorem my2 : mayF (mk numericS [⟨#[48]⟩]) = false := by kernel_rfl
theorem in1 : inF (mk cyclicS [⟨#[120]⟩]) (-5) = true := by kernel_rfl
theorem in2 : inF (mk symbolicS [⟨#[120]⟩]) 0 = false := by kernel_rfl
theorem us1 : usesF rmD (-1) = true := by kernel_rfl
theorem us2 : usesF (mk cyclicS [⟨#[120]⟩]) (-1) = false := by kernel_rfl
theorem sgp {d : Df} {n : Int} {r : ByteArray × Bool} (h : signsF d n = r) (h0 : -9223372036854775808 ≤ d.first) (h1 : d.syms.length ≤ 65536) (h2 : d.ws.length ≤ 65536) (h3 : d.rng.length ≤ 65536) : PCalls Try.prog 11 [dfA d, .val (.int .i64 n)] (tbA r) := h ▸ signs_ok d n h0 h1 h2 h3
theorem myp {d : Df} {r : Bool} (h : mayF d = r) (h1 : d.syms.length ≤ 65536) (h2 : d.ws.length ≤ 65536) (h3 : d.rng.length ≤ 65536) : PCalls Try.prog 13 [dfA d] (.val (.bool r)) := h ▸ may_ok d h1 h2 h3
theorem inp {d : Df} {n : Int} {r : Bool} (h : inF d n = r) (h3 : d.rng.length ≤ 65536) : PCalls Try.prog 14 [dfA d, .val (.int .i64 n)] (.val (.bool r)) := h ▸ in_ok d n (by omega)
theorem usp {d : Df} {n : Int} {r : Bool} (h : usesF d n = r) : PCalls Try.prog 15 [dfA d, .val (.int .i64 n)] (.val (.bool r)) := h ▸ uses_ok d n
set_option maxHeartbeats 8000000 in
theorem awake_ok : PCalls Try.prog 9 [] (.val (.bool true)) := by
  refine p_start Try.func9 Try.ntmps9 rfl rfl rfl fun S w => ?_
  repeat (first
    | refine awp_seq ?_
    | refine a_region ?_
    | refine r_done ?_
    | (refine r_id ?_; first
      | refine r_ev tab_ok rfl rfl rfl rfl (by first | exact trivial | exact ⟨by omega, by omega⟩ | omega | exact ⟨by omega, by omega, by omega, by omega⟩ | exact Nat.le_of_ble_eq_true rfl) rfl ?_
      | refine r_built tab_ok rfl rfl rfl rfl rfl rfl rfl rfl rfl ?_))
  refine r_call (made_ok alphabeticS [⟨#[97]⟩, ⟨#[98]⟩]) call10 rfl rfl ⟨Sub.refl _, Sub.refl _, trivial⟩ rfl rfl rfl rfl ?_
  refine r_call (sgp sg1 (by decide) (by decide) (by decide) (by decide)) call11 rfl rfl ⟨Sub.refl _, Sub.refl _, trivial⟩ rfl rfl rfl rfl ?_
  repeat (first
    | refine awp_seq ?_
    | refine a_region ?_
    | refine r_done ?_
    | (refine r_id ?_; first
      | refine r_ev tab_ok rfl rfl rfl rfl (by first | exact trivial | exact ⟨by omega, by omega⟩ | omega | exact ⟨by omega, by omega, by omega, by omega⟩ | exact Nat.le_of_ble_eq_true rfl) rfl ?_
      | refine r_built tab_ok rfl rfl rfl rfl rfl rfl rfl rfl rfl ?_))
  refine r_call (made_ok numericS [⟨#[48]⟩, ⟨#[49]⟩]) call10 rfl rfl ⟨Sub.refl _, Sub.refl _, trivial⟩ rfl rfl rfl rfl ?_
  refine r_call (sgp sg2 (by decide) (by decide) (by decide) (by decide)) call11 rfl rfl ⟨Sub.refl _, Sub.refl _, trivial⟩ rfl rfl rfl rfl ?_
  repeat (first
    | refine awp_seq ?_
    | refine a_region ?_
    | refine r_done ?_
    | (refine r_id ?_; first
      | refine r_ev tab_ok rfl rfl rfl rfl (by first | exact trivial | exact ⟨by omega, by omega⟩ | omega | exact ⟨by omega, by omega, by omega, by omega⟩ | exact Nat.le_of_ble_eq_true rfl) rfl ?_
      | refine r_built tab_ok rfl rfl rfl rfl rfl rfl rfl rfl rfl ?_))
  refine r_call (made_ok symbolicS [⟨#[120]⟩, ⟨#[121]⟩]) call10 rfl rfl ⟨Sub.refl _, Sub.refl _, trivial⟩ rfl rfl rfl rfl ?_
  refine r_call (sgp sg3 (by decide) (by decide) (by decide) (by decide)) call11 rfl rfl ⟨Sub.refl _, Sub.refl _, trivial⟩ rfl rfl rfl rfl ?_
  repeat (first
    | refine awp_seq ?_
    | refine a_region ?_
    | refine r_done ?_
    | (refine r_id ?_; first
      | refine r_ev tab_ok rfl rfl rfl rfl (by first | exact trivial | exact ⟨by omega, by omega⟩ | omega | exact ⟨by omega, by omega, by omega, by omega⟩ | exact Nat.le_of_ble_eq_true rfl) rfl ?_
      | refine r_built tab_ok rfl rfl rfl rfl rfl rfl rfl rfl rfl ?_))
  refine r_call (made_ok cyclicS [⟨#[120]⟩, ⟨#[121]⟩]) call10 rfl rfl ⟨Sub.refl _, Sub.refl _, trivial⟩ rfl rfl rfl rfl ?_
  refine r_call (sgp sg4 (by decide) (by decide) (by decide) (by decide)) call11 rfl rfl ⟨Sub.refl _, Sub.refl _, trivial⟩ rfl rfl rfl rfl ?_
  repeat (first
    | refine awp_seq ?_
    | refine a_region ?_
    | refine r_done ?_
    | (refine r_id ?_; first
      | refine r_ev tab_ok rfl rfl rfl rfl (by first | exact trivial | exact ⟨by omega, by omega⟩ | omega | exact ⟨by omega, by omega, by omega, by omega⟩ | exact Nat.le_of_ble_eq_true rfl) rfl ?_
      | refine r_built tab_ok rfl rfl rfl rfl rfl rfl rfl rfl rfl ?_))
  refine r_call (made_ok fixedS [⟨#[120]⟩, ⟨#[121]⟩]) call10 rfl rfl ⟨Sub.refl _, Sub.refl _, trivial⟩ rfl rfl rfl rfl ?_
  refine r_call (sgp sg5 (by decide) (by decide) (by decide) (by decide)) call11 rfl rfl ⟨Sub.refl _, Sub.refl _, trivial⟩ rfl rfl rfl rfl ?_
  repeat (first
    | refine awp_seq ?_
    | refine a_region ?_
    | refine r_done ?_
    | (refine r_id ?_; first
      | refine r_ev tab_ok rfl rfl rfl rfl (by first | exact trivial | exact ⟨by omega, by omega⟩ | omega | exact ⟨by omega, by omega, by omega, by omega⟩ | exact Nat.le_of_ble_eq_true rfl) rfl ?_
      | refine r_built tab_ok rfl rfl rfl rfl rfl rfl rfl rfl rfl ?_))
  refine r_call (made_ok additiveS [⟨#[120]⟩, ⟨#[118]⟩, ⟨#[105]⟩]) call10 rfl rfl ⟨Sub.refl _, Sub.refl _, trivial⟩ rfl rfl rfl rfl ?_
  repeat (first
    | refine awp_seq ?_
    | refine a_region ?_
    | refine r_done ?_
    | (refine r_id ?_; first
      | refine r_ev tab_ok rfl rfl rfl rfl (by first | exact trivial | exact ⟨by omega, by omega⟩ | omega | exact ⟨by omega, by omega, by omega, by omega⟩ | exact Nat.le_of_ble_eq_true rfl) rfl ?_
      | refine r_ld tab_ok rfl rfl rfl rfl rfl ?_
      | refine r_wr tab_ok rfl rfl rfl rfl rfl ?_
      | refine r_st tab_ok rfl rfl rfl rfl ?_
      | refine r_built tab_ok rfl rfl rfl rfl rfl rfl rfl rfl rfl ?_))
  refine r_call (sgp sg6 (by decide) (by decide) (by decide) (by decide)) call11 rfl rfl ⟨Sub.agg (by repeat' first | exact trivial | exact Sub.refl _ | exact Sub.nil _ | refine Sub.agg ?_ | apply And.intro), Sub.refl _, trivial⟩ rfl rfl rfl rfl ?_
  repeat (first
    | refine awp_seq ?_
    | refine a_region ?_
    | refine r_done ?_
    | (refine r_id ?_; first
      | refine r_ev tab_ok rfl rfl rfl rfl (by first | exact trivial | exact ⟨by omega, by omega⟩ | omega | exact ⟨by omega, by omega, by omega, by omega⟩ | exact Nat.le_of_ble_eq_true rfl) rfl ?_
      | refine r_ev_cnd tab_ok rfl rfl rfl rfl rfl rfl (by first | exact fun _ => rfl | exact cs1 | exact cs2 | exact cs3) (by first | exact fun _ => trivial | (intro h; simp at h; first | exact ⟨by omega, by omega⟩ | omega)) rfl ?_
      | refine r_ld_cnd tab_ok rfl rfl rfl rfl rfl rfl (by first | exact fun _ => rfl | exact cs1 | exact cs2 | exact cs3) rfl ?_
      | refine r_and rfl rfl rfl rfl rfl rfl rfl rfl ?_))
  refine r_call_cnd (fun _ => myp my1 (by decide) (by decide) (by decide)) call13 rfl rfl rfl rfl (by first | exact fun _ => rfl | exact cs1 | exact cs2 | exact cs3) ⟨Sub.agg (by repeat' first | exact trivial | exact Sub.refl _ | exact Sub.nil _ | refine Sub.agg ?_ | apply And.intro), trivial⟩ rfl rfl rfl rfl ?_
  repeat (first
    | (refine r_id ?_; first
      | refine r_ev tab_ok rfl rfl rfl rfl (by first | exact trivial | exact ⟨by omega, by omega⟩ | omega | exact ⟨by omega, by omega, by omega, by omega⟩ | exact Nat.le_of_ble_eq_true rfl) rfl ?_
      | refine r_and rfl rfl rfl rfl rfl rfl rfl rfl ?_
      | refine r_built_cnd tab_ok rfl rfl rfl rfl rfl rfl rfl rfl (by first | exact fun _ => rfl | exact cs1) rfl rfl rfl ?_))
  refine r_call_cnd (fun _ => made_ok numericS [⟨#[48]⟩]) call10 rfl rfl rfl rfl (by first | exact fun _ => rfl | exact cs1 | exact cs2 | exact cs3) ⟨Sub.refl _, Sub.refl _, trivial⟩ rfl rfl rfl rfl ?_
  refine r_call_cnd (fun _ => myp my2 (by decide) (by decide) (by decide)) call13 rfl rfl rfl rfl (by first | exact fun _ => rfl | exact cs1 | exact cs2 | exact cs3) ⟨Sub.refl _, trivial⟩ rfl rfl rfl rfl ?_
  repeat (first
    | (refine r_id ?_; first
      | refine r_ev tab_ok rfl rfl rfl rfl (by first | exact trivial | exact ⟨by omega, by omega⟩ | omega | exact ⟨by omega, by omega, by omega, by omega⟩ | exact Nat.le_of_ble_eq_true rfl) rfl ?_
      | refine r_ev_cnd tab_ok rfl rfl rfl rfl rfl rfl (by first | exact fun _ => rfl | exact cs1 | exact cs2 | exact cs3) (by first | exact fun _ => trivial | (intro h; simp at h; first | exact ⟨by omega, by omega⟩ | omega)) rfl ?_
      | refine r_and rfl rfl rfl rfl rfl rfl rfl rfl ?_
      | refine r_built_cnd tab_ok rfl rfl rfl rfl rfl rfl rfl rfl (by first | exact fun _ => rfl | exact cs1) rfl rfl rfl ?_))
  refine r_call_cnd (fun _ => made_ok cyclicS [⟨#[120]⟩]) call10 rfl rfl rfl rfl (by first | exact fun _ => rfl | exact cs1 | exact cs2 | exact cs3) ⟨Sub.refl _, Sub.refl _, trivial⟩ rfl rfl rfl rfl ?_
  refine r_call_cnd (fun _ => inp in1 (by decide)) call14 rfl rfl rfl rfl (by first | exact fun _ => rfl | exact cs1 | exact cs2 | exact cs3) ⟨Sub.refl _, Sub.refl _, trivial⟩ rfl rfl rfl rfl ?_
  repeat (first
    | (refine r_id ?_; first
      | refine r_ev tab_ok rfl rfl rfl rfl (by first | exact trivial | exact ⟨by omega, by omega⟩ | omega | exact ⟨by omega, by omega, by omega, by omega⟩ | exact Nat.le_of_ble_eq_true rfl) rfl ?_
      | refine r_and rfl rfl rfl rfl rfl rfl rfl rfl ?_
      | refine r_built_cnd tab_ok rfl rfl rfl rfl rfl rfl rfl rfl (by first | exact fun _ => rfl | exact cs1) rfl rfl rfl ?_))
  refine r_call_cnd (fun _ => made_ok symbolicS [⟨#[120]⟩]) call10 rfl rfl rfl rfl (by first | exact fun _ => rfl | exact cs1 | exact cs2 | exact cs3) ⟨Sub.refl _, Sub.refl _, trivial⟩ rfl rfl rfl rfl ?_
  refine r_call_cnd (fun _ => inp in2 (by decide)) call14 rfl rfl rfl rfl (by first | exact fun _ => rfl | exact cs1 | exact cs2 | exact cs3) ⟨Sub.refl _, Sub.refl _, trivial⟩ rfl rfl rfl rfl ?_
  repeat (first
    | (refine r_id ?_; first
      | refine r_ev tab_ok rfl rfl rfl rfl (by first | exact trivial | exact ⟨by omega, by omega⟩ | omega | exact ⟨by omega, by omega, by omega, by omega⟩ | exact Nat.le_of_ble_eq_true rfl) rfl ?_
      | refine r_ev_cnd tab_ok rfl rfl rfl rfl rfl rfl (by first | exact fun _ => rfl | exact cs1 | exact cs2 | exact cs3) (by first | exact fun _ => trivial | (intro h; simp at h; first | exact ⟨by omega, by omega⟩ | omega)) rfl ?_
      | refine r_ld_cnd tab_ok rfl rfl rfl rfl rfl rfl (by first | exact fun _ => rfl | exact cs1 | exact cs2 | exact cs3) rfl ?_
      | refine r_and rfl rfl rfl rfl rfl rfl rfl rfl ?_))
  refine r_call_cnd (fun _ => usp us1) call15 rfl rfl rfl rfl (by first | exact fun _ => rfl | exact cs1 | exact cs2 | exact cs3) ⟨Sub.agg (by repeat' first | exact trivial | exact Sub.refl _ | exact Sub.nil _ | refine Sub.agg ?_ | apply And.intro), Sub.refl _, trivial⟩ rfl rfl rfl rfl ?_
  repeat (first
    | (refine r_id ?_; first
      | refine r_ev tab_ok rfl rfl rfl rfl (by first | exact trivial | exact ⟨by omega, by omega⟩ | omega | exact ⟨by omega, by omega, by omega, by omega⟩ | exact Nat.le_of_ble_eq_true rfl) rfl ?_
      | refine r_and rfl rfl rfl rfl rfl rfl rfl rfl ?_
      | refine r_built_cnd tab_ok rfl rfl rfl rfl rfl rfl rfl rfl (by first | exact fun _ => rfl | exact cs1) rfl rfl rfl ?_))
  refine r_call_cnd (fun _ => made_ok cyclicS [⟨#[120]⟩]) call10 rfl rfl rfl rfl (by first | exact fun _ => rfl | exact cs1 | exact cs2 | exact cs3) ⟨Sub.refl _, Sub.refl _, trivial⟩ rfl rfl rfl rfl ?_
  refine r_call_cnd (fun _ => usp us2) call15 rfl rfl rfl rfl (by first | exact fun _ => rfl | exact cs1 | exact cs2 | exact cs3) ⟨Sub.refl _, Sub.refl _, trivial⟩ rfl rfl rfl rfl ?_
  repeat (first
    | refine thenA_normal ?_
    | refine awp_ret ?_
    | refine r_done ?_
    | (refine r_id ?_; first
      | refine r_ev tab_ok rfl rfl rfl rfl (by first | exact trivial | exact ⟨by omega, by omega⟩ | omega | exact ⟨by omega, by omega, by omega, by omega⟩ | exact Nat.le_of_ble_eq_true rfl) rfl ?_
      | refine r_ev_cnd tab_ok rfl rfl rfl rfl rfl rfl (by first | exact fun _ => rfl | exact cs1 | exact cs2 | exact cs3) (by first | exact fun _ => trivial | (intro h; simp at h; first | exact ⟨by omega, by omega⟩ | omega)) rfl ?_
      | refine r_and rfl rfl rfl rfl rfl rfl rfl rfl ?_)
    | refine ret1 (by first | exact .inl rfl | exact .inr rfl) rfl rfl rfl ?_)
  exact Sub.refl _
end Go.Proofs.Ytgkcliecgmhmfaa
