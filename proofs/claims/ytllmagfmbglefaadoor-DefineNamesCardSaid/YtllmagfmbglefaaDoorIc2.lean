/- DefineNames walked, for words 8 to 11. -/
import Derived.Test.YtllmagfmbglefaaDoorIb
namespace Go.Proofs.YtllmagfmbglefaaDoor
open Go Go.RowKit
set_option maxRecDepth 20000

set_option maxHeartbeats 8000000 in
theorem dn8 (k how : Int) (hk : k % 12 = 8) : uV Tryd.prog 8 [.val (.int .i64 k), .val (.int .i64 how)] (.val (.bool true)) := by
  refine u1 Tryd.func8 Tryd.ntmps8 rfl rfl rfl fun S w => ?_
  repeat (first | refine uf ?_ | refine ud ?_ | refine ug ?_ | (refine uk ?_; first | refine ul tab_ok rfl rfl rfl rfl (by first | exact trivial | omega | exact nl rfl) rfl ?_ | refine vd tab_ok rfl rfl rfl rfl rfl rfl rfl rfl rfl ?_))
  refine um (vj k 12 (by decide) (by decide)) u4 rfl rfl ⟨Sub.refl _, Sub.refl _, trivial⟩ rfl rfl rfl rfl ?_
  rw [hk]
  repeat (first | refine uf ?_ | refine vm vb (by kernel_rfl) ?_ | refine ug ?_ | (refine uk ?_; first | refine ul tab_ok rfl rfl rfl rfl (by first | exact trivial | omega | exact nl rfl) rfl ?_ | refine uO tab_ok rfl rfl rfl rfl rfl rfl rfl (by decide) rfl rfl rfl ?_ | refine vd tab_ok rfl rfl rfl rfl rfl rfl rfl rfl rfl ?_))
  refine um (vj how 4 (by decide) (by decide)) u4 rfl rfl ⟨Sub.refl _, Sub.refl _, trivial⟩ rfl rfl rfl rfl ?_
  have h4 : how % 4 = 0 ∨ how % 4 = 1 ∨ how % 4 = 2 ∨ how % 4 = 3 := by omega
  have hr := vj how 4 (by decide) (by decide)
  rcases h4 with h4 | h4 | h4 | h4
  · rw [h4] at hr ⊢
    repeat (first | refine uf ?_ | refine ud ?_ | refine uQ ?_ | (refine uk ?_; first | refine ul tab_ok rfl rfl rfl rfl (by first | exact trivial | omega | exact nl rfl) rfl ?_ | refine uO tab_ok rfl rfl rfl rfl rfl rfl rfl (by decide) rfl rfl rfl ?_))
    refine um (uR _ (vr nt0_8.1)) vn rfl rfl ⟨Sub.refl _, trivial⟩ rfl rfl rfl rfl ?_
    refine um (ve nt0_8) vl rfl rfl ⟨Sub.refl _, trivial⟩ rfl rfl rfl rfl ?_
    repeat (first | refine uf ?_ | refine ud ?_ | refine ug ?_ | (refine uk ?_; first | refine ul tab_ok rfl rfl rfl rfl (by first | exact trivial | omega | exact nl rfl) rfl ?_))
    refine um hr u4 rfl rfl ⟨Sub.refl _, Sub.refl _, trivial⟩ rfl rfl rfl rfl ?_
    repeat (first | refine uf ?_ | refine uc ?_ | refine ud ?_ | refine uq ?_ | refine ug ?_ | (refine uk ?_; first | refine ul tab_ok rfl rfl rfl rfl (by first | exact trivial | omega | exact nl rfl) rfl ?_) | refine uF rfl ?_)
    refine um (vF ut0_8) wi rfl rfl ⟨Sub.refl _, trivial⟩ rfl rfl rfl rfl ?_
    repeat (first | refine uf ?_ | refine ud ?_ | refine vm vb (by kernel_rfl) ?_ | refine ug ?_ | (refine uk ?_; first | refine ul tab_ok rfl rfl rfl rfl (by first | exact trivial | omega | exact nl rfl) rfl ?_ | refine uO tab_ok rfl rfl rfl rfl rfl rfl rfl (by decide) rfl rfl rfl ?_ | refine vI tab_ok rfl rfl rfl rfl rfl ?_ | refine u3 tab_ok rfl rfl rfl rfl ?_ | refine ux rfl rfl rfl rfl rfl rfl rfl ?_ | refine uX rfl rfl rfl rfl rfl rfl rfl ?_ | refine vG rfl rfl rfl rfl rfl rfl ?_ | refine u2 tab_ok rfl rfl rfl rfl rfl rfl (by first | exact trivial | omega) rfl ?_) | refine r_g rfl rfl rfl ?_)
    refine um uT vt rfl rfl trivial rfl rfl rfl rfl ?_
    repeat (first | refine uc ?_ | refine un ?_ | refine uQ ?_ | (refine uk ?_; first | refine ul tab_ok rfl rfl rfl rfl (by first | exact trivial | omega | exact nl rfl) rfl ?_ | refine ux rfl rfl rfl rfl rfl rfl rfl ?_) | refine vh (by simp) rfl rfl rfl ?_)
    exact Sub.refl _
  · rw [h4] at hr ⊢
    repeat (first | refine uf ?_ | refine ud ?_ | refine uQ ?_ | (refine uk ?_; first | refine ul tab_ok rfl rfl rfl rfl (by first | exact trivial | omega | exact nl rfl) rfl ?_ | refine uO tab_ok rfl rfl rfl rfl rfl rfl rfl (by decide) rfl rfl rfl ?_))
    refine um (uR _ (vr nt1_8.1)) vn rfl rfl ⟨Sub.refl _, trivial⟩ rfl rfl rfl rfl ?_
    refine um (ve nt1_8) vl rfl rfl ⟨Sub.refl _, trivial⟩ rfl rfl rfl rfl ?_
    repeat (first | refine uf ?_ | refine ud ?_ | refine ug ?_ | (refine uk ?_; first | refine ul tab_ok rfl rfl rfl rfl (by first | exact trivial | omega | exact nl rfl) rfl ?_))
    refine um hr u4 rfl rfl ⟨Sub.refl _, Sub.refl _, trivial⟩ rfl rfl rfl rfl ?_
    repeat (first | refine uf ?_ | refine uc ?_ | refine ud ?_ | refine uq ?_ | refine ug ?_ | (refine uk ?_; first | refine ul tab_ok rfl rfl rfl rfl (by first | exact trivial | omega | exact nl rfl) rfl ?_) | refine uF rfl ?_)
    refine um (vF ut1_8) wi rfl rfl ⟨Sub.refl _, trivial⟩ rfl rfl rfl rfl ?_
    repeat (first | refine uf ?_ | refine ud ?_ | refine vm vb (by kernel_rfl) ?_ | refine ug ?_ | (refine uk ?_; first | refine ul tab_ok rfl rfl rfl rfl (by first | exact trivial | omega | exact nl rfl) rfl ?_ | refine uO tab_ok rfl rfl rfl rfl rfl rfl rfl (by decide) rfl rfl rfl ?_ | refine vI tab_ok rfl rfl rfl rfl rfl ?_ | refine u3 tab_ok rfl rfl rfl rfl ?_ | refine ux rfl rfl rfl rfl rfl rfl rfl ?_ | refine uX rfl rfl rfl rfl rfl rfl rfl ?_ | refine vG rfl rfl rfl rfl rfl rfl ?_ | refine u2 tab_ok rfl rfl rfl rfl rfl rfl (by first | exact trivial | omega) rfl ?_) | refine r_g rfl rfl rfl ?_)
    refine um uT vt rfl rfl trivial rfl rfl rfl rfl ?_
    repeat (first | refine uc ?_ | refine un ?_ | refine uQ ?_ | (refine uk ?_; first | refine ul tab_ok rfl rfl rfl rfl (by first | exact trivial | omega | exact nl rfl) rfl ?_ | refine ux rfl rfl rfl rfl rfl rfl rfl ?_) | refine vh (by simp) rfl rfl rfl ?_)
    exact Sub.refl _
  · rw [h4] at hr ⊢
    repeat (first | refine uf ?_ | refine ud ?_ | refine uQ ?_ | (refine uk ?_; first | refine ul tab_ok rfl rfl rfl rfl (by first | exact trivial | omega | exact nl rfl) rfl ?_ | refine uO tab_ok rfl rfl rfl rfl rfl rfl rfl (by decide) rfl rfl rfl ?_))
    refine um (uR _ (vr nt2_8.1)) vn rfl rfl ⟨Sub.refl _, trivial⟩ rfl rfl rfl rfl ?_
    refine um (ve nt2_8) vl rfl rfl ⟨Sub.refl _, trivial⟩ rfl rfl rfl rfl ?_
    repeat (first | refine uf ?_ | refine ud ?_ | refine ug ?_ | (refine uk ?_; first | refine ul tab_ok rfl rfl rfl rfl (by first | exact trivial | omega | exact nl rfl) rfl ?_))
    refine um hr u4 rfl rfl ⟨Sub.refl _, Sub.refl _, trivial⟩ rfl rfl rfl rfl ?_
    repeat (first | refine uf ?_ | refine uc ?_ | refine ud ?_ | refine ug ?_ | (refine uk ?_; first | refine ul tab_ok rfl rfl rfl rfl (by first | exact trivial | omega | exact nl rfl) rfl ?_ | refine ux rfl rfl rfl rfl rfl rfl rfl ?_ | refine u2 tab_ok rfl rfl rfl rfl rfl rfl (by first | exact trivial | omega) rfl ?_) | refine uA rfl ?_ | refine r_g rfl rfl rfl ?_)
    refine um uT vt rfl rfl trivial rfl rfl rfl rfl ?_
    repeat (first | refine uc ?_ | refine un ?_ | refine ur ?_ | refine ug ?_ | (refine uk ?_; first | refine ul tab_ok rfl rfl rfl rfl (by first | exact trivial | omega | exact nl rfl) rfl ?_ | refine ux rfl rfl rfl rfl rfl rfl rfl ?_) | refine vh (by simp) rfl rfl rfl ?_)
    exact Sub.refl _
  · rw [h4] at hr ⊢
    repeat (first | refine uf ?_ | refine ud ?_ | refine uQ ?_ | (refine uk ?_; first | refine ul tab_ok rfl rfl rfl rfl (by first | exact trivial | omega | exact nl rfl) rfl ?_ | refine uO tab_ok rfl rfl rfl rfl rfl rfl rfl (by decide) rfl rfl rfl ?_))
    refine um (uR _ (vr nt3_8.1)) vn rfl rfl ⟨Sub.refl _, trivial⟩ rfl rfl rfl rfl ?_
    refine um (ve nt3_8) vl rfl rfl ⟨Sub.refl _, trivial⟩ rfl rfl rfl rfl ?_
    repeat (first | refine uf ?_ | refine ud ?_ | refine ug ?_ | (refine uk ?_; first | refine ul tab_ok rfl rfl rfl rfl (by first | exact trivial | omega | exact nl rfl) rfl ?_))
    refine um hr u4 rfl rfl ⟨Sub.refl _, Sub.refl _, trivial⟩ rfl rfl rfl rfl ?_
    repeat (first | refine uf ?_ | refine uc ?_ | refine ud ?_ | refine ug ?_ | (refine uk ?_; first | refine ul tab_ok rfl rfl rfl rfl (by first | exact trivial | omega | exact nl rfl) rfl ?_ | refine ux rfl rfl rfl rfl rfl rfl rfl ?_ | refine u2 tab_ok rfl rfl rfl rfl rfl rfl (by first | exact trivial | omega) rfl ?_) | refine uA rfl ?_ | refine r_g rfl rfl rfl ?_)
    refine um uT vt rfl rfl trivial rfl rfl rfl rfl ?_
    repeat (first | refine uc ?_ | refine un ?_ | refine ur ?_ | refine ug ?_ | (refine uk ?_; first | refine ul tab_ok rfl rfl rfl rfl (by first | exact trivial | omega | exact nl rfl) rfl ?_ | refine ux rfl rfl rfl rfl rfl rfl rfl ?_) | refine vh (by simp) rfl rfl rfl ?_)
    exact Sub.refl _
set_option maxHeartbeats 8000000 in
theorem dn9 (k how : Int) (hk : k % 12 = 9) : uV Tryd.prog 8 [.val (.int .i64 k), .val (.int .i64 how)] (.val (.bool true)) := by
  refine u1 Tryd.func8 Tryd.ntmps8 rfl rfl rfl fun S w => ?_
  repeat (first | refine uf ?_ | refine ud ?_ | refine ug ?_ | (refine uk ?_; first | refine ul tab_ok rfl rfl rfl rfl (by first | exact trivial | omega | exact nl rfl) rfl ?_ | refine vd tab_ok rfl rfl rfl rfl rfl rfl rfl rfl rfl ?_))
  refine um (vj k 12 (by decide) (by decide)) u4 rfl rfl ⟨Sub.refl _, Sub.refl _, trivial⟩ rfl rfl rfl rfl ?_
  rw [hk]
  repeat (first | refine uf ?_ | refine vm vb (by kernel_rfl) ?_ | refine ug ?_ | (refine uk ?_; first | refine ul tab_ok rfl rfl rfl rfl (by first | exact trivial | omega | exact nl rfl) rfl ?_ | refine uO tab_ok rfl rfl rfl rfl rfl rfl rfl (by decide) rfl rfl rfl ?_ | refine vd tab_ok rfl rfl rfl rfl rfl rfl rfl rfl rfl ?_))
  refine um (vj how 4 (by decide) (by decide)) u4 rfl rfl ⟨Sub.refl _, Sub.refl _, trivial⟩ rfl rfl rfl rfl ?_
  have h4 : how % 4 = 0 ∨ how % 4 = 1 ∨ how % 4 = 2 ∨ how % 4 = 3 := by omega
  have hr := vj how 4 (by decide) (by decide)
  rcases h4 with h4 | h4 | h4 | h4
  · rw [h4] at hr ⊢
    repeat (first | refine uf ?_ | refine ud ?_ | refine uQ ?_ | (refine uk ?_; first | refine ul tab_ok rfl rfl rfl rfl (by first | exact trivial | omega | exact nl rfl) rfl ?_ | refine uO tab_ok rfl rfl rfl rfl rfl rfl rfl (by decide) rfl rfl rfl ?_))
    refine um (uR _ (vr nt0_9.1)) vn rfl rfl ⟨Sub.refl _, trivial⟩ rfl rfl rfl rfl ?_
    refine um (ve nt0_9) vl rfl rfl ⟨Sub.refl _, trivial⟩ rfl rfl rfl rfl ?_
    repeat (first | refine uf ?_ | refine ud ?_ | refine ug ?_ | (refine uk ?_; first | refine ul tab_ok rfl rfl rfl rfl (by first | exact trivial | omega | exact nl rfl) rfl ?_))
    refine um hr u4 rfl rfl ⟨Sub.refl _, Sub.refl _, trivial⟩ rfl rfl rfl rfl ?_
    repeat (first | refine uf ?_ | refine uc ?_ | refine ud ?_ | refine uq ?_ | refine ug ?_ | (refine uk ?_; first | refine ul tab_ok rfl rfl rfl rfl (by first | exact trivial | omega | exact nl rfl) rfl ?_) | refine uF rfl ?_)
    refine um (vF ut0_9) wi rfl rfl ⟨Sub.refl _, trivial⟩ rfl rfl rfl rfl ?_
    repeat (first | refine uf ?_ | refine ud ?_ | refine vm vb (by kernel_rfl) ?_ | refine ug ?_ | (refine uk ?_; first | refine ul tab_ok rfl rfl rfl rfl (by first | exact trivial | omega | exact nl rfl) rfl ?_ | refine uO tab_ok rfl rfl rfl rfl rfl rfl rfl (by decide) rfl rfl rfl ?_ | refine vI tab_ok rfl rfl rfl rfl rfl ?_ | refine u3 tab_ok rfl rfl rfl rfl ?_ | refine ux rfl rfl rfl rfl rfl rfl rfl ?_ | refine uX rfl rfl rfl rfl rfl rfl rfl ?_ | refine u2 tab_ok rfl rfl rfl rfl rfl rfl (by first | exact trivial | omega) rfl ?_ | refine wP tab_ok rfl rfl rfl rfl rfl rfl rfl ?_) | refine r_g rfl rfl rfl ?_)
    refine um uT vt rfl rfl trivial rfl rfl rfl rfl ?_
    repeat (first | refine uc ?_ | refine un ?_ | refine uQ ?_ | (refine uk ?_; first | refine ul tab_ok rfl rfl rfl rfl (by first | exact trivial | omega | exact nl rfl) rfl ?_ | refine ux rfl rfl rfl rfl rfl rfl rfl ?_) | refine vh (by simp) rfl rfl rfl ?_)
    exact Sub.refl _
  · rw [h4] at hr ⊢
    repeat (first | refine uf ?_ | refine ud ?_ | refine uQ ?_ | (refine uk ?_; first | refine ul tab_ok rfl rfl rfl rfl (by first | exact trivial | omega | exact nl rfl) rfl ?_ | refine uO tab_ok rfl rfl rfl rfl rfl rfl rfl (by decide) rfl rfl rfl ?_))
    refine um (uR _ (vr nt1_9.1)) vn rfl rfl ⟨Sub.refl _, trivial⟩ rfl rfl rfl rfl ?_
    refine um (ve nt1_9) vl rfl rfl ⟨Sub.refl _, trivial⟩ rfl rfl rfl rfl ?_
    repeat (first | refine uf ?_ | refine ud ?_ | refine ug ?_ | (refine uk ?_; first | refine ul tab_ok rfl rfl rfl rfl (by first | exact trivial | omega | exact nl rfl) rfl ?_))
    refine um hr u4 rfl rfl ⟨Sub.refl _, Sub.refl _, trivial⟩ rfl rfl rfl rfl ?_
    repeat (first | refine uf ?_ | refine uc ?_ | refine ud ?_ | refine uq ?_ | refine ug ?_ | (refine uk ?_; first | refine ul tab_ok rfl rfl rfl rfl (by first | exact trivial | omega | exact nl rfl) rfl ?_) | refine uF rfl ?_)
    refine um (vF ut1_9) wi rfl rfl ⟨Sub.refl _, trivial⟩ rfl rfl rfl rfl ?_
    repeat (first | refine uf ?_ | refine ud ?_ | refine vm vb (by kernel_rfl) ?_ | refine ug ?_ | (refine uk ?_; first | refine ul tab_ok rfl rfl rfl rfl (by first | exact trivial | omega | exact nl rfl) rfl ?_ | refine uO tab_ok rfl rfl rfl rfl rfl rfl rfl (by decide) rfl rfl rfl ?_ | refine vI tab_ok rfl rfl rfl rfl rfl ?_ | refine u3 tab_ok rfl rfl rfl rfl ?_ | refine ux rfl rfl rfl rfl rfl rfl rfl ?_ | refine uX rfl rfl rfl rfl rfl rfl rfl ?_ | refine u2 tab_ok rfl rfl rfl rfl rfl rfl (by first | exact trivial | omega) rfl ?_ | refine wP tab_ok rfl rfl rfl rfl rfl rfl rfl ?_) | refine r_g rfl rfl rfl ?_)
    refine um uT vt rfl rfl trivial rfl rfl rfl rfl ?_
    repeat (first | refine uc ?_ | refine un ?_ | refine uQ ?_ | (refine uk ?_; first | refine ul tab_ok rfl rfl rfl rfl (by first | exact trivial | omega | exact nl rfl) rfl ?_ | refine ux rfl rfl rfl rfl rfl rfl rfl ?_) | refine vh (by simp) rfl rfl rfl ?_)
    exact Sub.refl _
  · rw [h4] at hr ⊢
    repeat (first | refine uf ?_ | refine ud ?_ | refine uQ ?_ | (refine uk ?_; first | refine ul tab_ok rfl rfl rfl rfl (by first | exact trivial | omega | exact nl rfl) rfl ?_ | refine uO tab_ok rfl rfl rfl rfl rfl rfl rfl (by decide) rfl rfl rfl ?_))
    refine um (uR _ (vr nt2_9.1)) vn rfl rfl ⟨Sub.refl _, trivial⟩ rfl rfl rfl rfl ?_
    refine um (ve nt2_9) vl rfl rfl ⟨Sub.refl _, trivial⟩ rfl rfl rfl rfl ?_
    repeat (first | refine uf ?_ | refine ud ?_ | refine ug ?_ | (refine uk ?_; first | refine ul tab_ok rfl rfl rfl rfl (by first | exact trivial | omega | exact nl rfl) rfl ?_))
    refine um hr u4 rfl rfl ⟨Sub.refl _, Sub.refl _, trivial⟩ rfl rfl rfl rfl ?_
    repeat (first | refine uf ?_ | refine uc ?_ | refine ud ?_ | refine ug ?_ | (refine uk ?_; first | refine ul tab_ok rfl rfl rfl rfl (by first | exact trivial | omega | exact nl rfl) rfl ?_ | refine ux rfl rfl rfl rfl rfl rfl rfl ?_ | refine u2 tab_ok rfl rfl rfl rfl rfl rfl (by first | exact trivial | omega) rfl ?_) | refine uA rfl ?_ | refine r_g rfl rfl rfl ?_)
    refine um uT vt rfl rfl trivial rfl rfl rfl rfl ?_
    repeat (first | refine uc ?_ | refine un ?_ | refine ur ?_ | refine ug ?_ | (refine uk ?_; first | refine ul tab_ok rfl rfl rfl rfl (by first | exact trivial | omega | exact nl rfl) rfl ?_ | refine ux rfl rfl rfl rfl rfl rfl rfl ?_) | refine vh (by simp) rfl rfl rfl ?_)
    exact Sub.refl _
  · rw [h4] at hr ⊢
    repeat (first | refine uf ?_ | refine ud ?_ | refine uQ ?_ | (refine uk ?_; first | refine ul tab_ok rfl rfl rfl rfl (by first | exact trivial | omega | exact nl rfl) rfl ?_ | refine uO tab_ok rfl rfl rfl rfl rfl rfl rfl (by decide) rfl rfl rfl ?_))
    refine um (uR _ (vr nt3_9.1)) vn rfl rfl ⟨Sub.refl _, trivial⟩ rfl rfl rfl rfl ?_
    refine um (ve nt3_9) vl rfl rfl ⟨Sub.refl _, trivial⟩ rfl rfl rfl rfl ?_
    repeat (first | refine uf ?_ | refine ud ?_ | refine ug ?_ | (refine uk ?_; first | refine ul tab_ok rfl rfl rfl rfl (by first | exact trivial | omega | exact nl rfl) rfl ?_))
    refine um hr u4 rfl rfl ⟨Sub.refl _, Sub.refl _, trivial⟩ rfl rfl rfl rfl ?_
    repeat (first | refine uf ?_ | refine uc ?_ | refine ud ?_ | refine ug ?_ | (refine uk ?_; first | refine ul tab_ok rfl rfl rfl rfl (by first | exact trivial | omega | exact nl rfl) rfl ?_ | refine ux rfl rfl rfl rfl rfl rfl rfl ?_ | refine u2 tab_ok rfl rfl rfl rfl rfl rfl (by first | exact trivial | omega) rfl ?_) | refine uA rfl ?_ | refine r_g rfl rfl rfl ?_)
    refine um uT vt rfl rfl trivial rfl rfl rfl rfl ?_
    repeat (first | refine uc ?_ | refine un ?_ | refine ur ?_ | refine ug ?_ | (refine uk ?_; first | refine ul tab_ok rfl rfl rfl rfl (by first | exact trivial | omega | exact nl rfl) rfl ?_ | refine ux rfl rfl rfl rfl rfl rfl rfl ?_) | refine vh (by simp) rfl rfl rfl ?_)
    exact Sub.refl _
set_option maxHeartbeats 8000000 in
theorem dn10 (k how : Int) (hk : k % 12 = 10) : uV Tryd.prog 8 [.val (.int .i64 k), .val (.int .i64 how)] (.val (.bool true)) := by
  refine u1 Tryd.func8 Tryd.ntmps8 rfl rfl rfl fun S w => ?_
  repeat (first | refine uf ?_ | refine ud ?_ | refine ug ?_ | (refine uk ?_; first | refine ul tab_ok rfl rfl rfl rfl (by first | exact trivial | omega | exact nl rfl) rfl ?_ | refine vd tab_ok rfl rfl rfl rfl rfl rfl rfl rfl rfl ?_))
  refine um (vj k 12 (by decide) (by decide)) u4 rfl rfl ⟨Sub.refl _, Sub.refl _, trivial⟩ rfl rfl rfl rfl ?_
  rw [hk]
  repeat (first | refine uf ?_ | refine vm vb (by kernel_rfl) ?_ | refine ug ?_ | (refine uk ?_; first | refine ul tab_ok rfl rfl rfl rfl (by first | exact trivial | omega | exact nl rfl) rfl ?_ | refine uO tab_ok rfl rfl rfl rfl rfl rfl rfl (by decide) rfl rfl rfl ?_ | refine vd tab_ok rfl rfl rfl rfl rfl rfl rfl rfl rfl ?_))
  refine um (vj how 4 (by decide) (by decide)) u4 rfl rfl ⟨Sub.refl _, Sub.refl _, trivial⟩ rfl rfl rfl rfl ?_
  have h4 : how % 4 = 0 ∨ how % 4 = 1 ∨ how % 4 = 2 ∨ how % 4 = 3 := by omega
  have hr := vj how 4 (by decide) (by decide)
  rcases h4 with h4 | h4 | h4 | h4
  · rw [h4] at hr ⊢
    repeat (first | refine uf ?_ | refine ud ?_ | refine uQ ?_ | (refine uk ?_; first | refine ul tab_ok rfl rfl rfl rfl (by first | exact trivial | omega | exact nl rfl) rfl ?_ | refine uO tab_ok rfl rfl rfl rfl rfl rfl rfl (by decide) rfl rfl rfl ?_))
    refine um (uR _ (vr nt0_10.1)) vn rfl rfl ⟨Sub.refl _, trivial⟩ rfl rfl rfl rfl ?_
    refine um (ve nt0_10) vl rfl rfl ⟨Sub.refl _, trivial⟩ rfl rfl rfl rfl ?_
    repeat (first | refine uf ?_ | refine ud ?_ | refine ug ?_ | (refine uk ?_; first | refine ul tab_ok rfl rfl rfl rfl (by first | exact trivial | omega | exact nl rfl) rfl ?_))
    refine um hr u4 rfl rfl ⟨Sub.refl _, Sub.refl _, trivial⟩ rfl rfl rfl rfl ?_
    repeat (first | refine uf ?_ | refine uc ?_ | refine ud ?_ | refine uq ?_ | refine ug ?_ | (refine uk ?_; first | refine ul tab_ok rfl rfl rfl rfl (by first | exact trivial | omega | exact nl rfl) rfl ?_) | refine uF rfl ?_)
    refine um (vF ut0_10) wi rfl rfl ⟨Sub.refl _, trivial⟩ rfl rfl rfl rfl ?_
    repeat (first | refine uf ?_ | refine ud ?_ | refine vm vb (by kernel_rfl) ?_ | refine ug ?_ | (refine uk ?_; first | refine ul tab_ok rfl rfl rfl rfl (by first | exact trivial | omega | exact nl rfl) rfl ?_ | refine uO tab_ok rfl rfl rfl rfl rfl rfl rfl (by decide) rfl rfl rfl ?_ | refine vI tab_ok rfl rfl rfl rfl rfl ?_ | refine u3 tab_ok rfl rfl rfl rfl ?_ | refine ux rfl rfl rfl rfl rfl rfl rfl ?_ | refine vG rfl rfl rfl rfl rfl rfl ?_ | refine u2 tab_ok rfl rfl rfl rfl rfl rfl (by first | exact trivial | omega) rfl ?_) | refine r_g rfl rfl rfl ?_)
    refine um uT vt rfl rfl trivial rfl rfl rfl rfl ?_
    repeat (first | refine uc ?_ | refine un ?_ | refine uQ ?_ | (refine uk ?_; first | refine ul tab_ok rfl rfl rfl rfl (by first | exact trivial | omega | exact nl rfl) rfl ?_ | refine ux rfl rfl rfl rfl rfl rfl rfl ?_) | refine vh (by simp) rfl rfl rfl ?_)
    exact Sub.refl _
  · rw [h4] at hr ⊢
    repeat (first | refine uf ?_ | refine ud ?_ | refine uQ ?_ | (refine uk ?_; first | refine ul tab_ok rfl rfl rfl rfl (by first | exact trivial | omega | exact nl rfl) rfl ?_ | refine uO tab_ok rfl rfl rfl rfl rfl rfl rfl (by decide) rfl rfl rfl ?_))
    refine um (uR _ (vr nt1_10.1)) vn rfl rfl ⟨Sub.refl _, trivial⟩ rfl rfl rfl rfl ?_
    refine um (ve nt1_10) vl rfl rfl ⟨Sub.refl _, trivial⟩ rfl rfl rfl rfl ?_
    repeat (first | refine uf ?_ | refine ud ?_ | refine ug ?_ | (refine uk ?_; first | refine ul tab_ok rfl rfl rfl rfl (by first | exact trivial | omega | exact nl rfl) rfl ?_))
    refine um hr u4 rfl rfl ⟨Sub.refl _, Sub.refl _, trivial⟩ rfl rfl rfl rfl ?_
    repeat (first | refine uf ?_ | refine uc ?_ | refine ud ?_ | refine uq ?_ | refine ug ?_ | (refine uk ?_; first | refine ul tab_ok rfl rfl rfl rfl (by first | exact trivial | omega | exact nl rfl) rfl ?_) | refine uF rfl ?_)
    refine um (vF ut1_10) wi rfl rfl ⟨Sub.refl _, trivial⟩ rfl rfl rfl rfl ?_
    repeat (first | refine uf ?_ | refine ud ?_ | refine vm vb (by kernel_rfl) ?_ | refine ug ?_ | (refine uk ?_; first | refine ul tab_ok rfl rfl rfl rfl (by first | exact trivial | omega | exact nl rfl) rfl ?_ | refine uO tab_ok rfl rfl rfl rfl rfl rfl rfl (by decide) rfl rfl rfl ?_ | refine vI tab_ok rfl rfl rfl rfl rfl ?_ | refine u3 tab_ok rfl rfl rfl rfl ?_ | refine ux rfl rfl rfl rfl rfl rfl rfl ?_ | refine vG rfl rfl rfl rfl rfl rfl ?_ | refine u2 tab_ok rfl rfl rfl rfl rfl rfl (by first | exact trivial | omega) rfl ?_) | refine r_g rfl rfl rfl ?_)
    refine um uT vt rfl rfl trivial rfl rfl rfl rfl ?_
    repeat (first | refine uc ?_ | refine un ?_ | refine uQ ?_ | (refine uk ?_; first | refine ul tab_ok rfl rfl rfl rfl (by first | exact trivial | omega | exact nl rfl) rfl ?_ | refine ux rfl rfl rfl rfl rfl rfl rfl ?_) | refine vh (by simp) rfl rfl rfl ?_)
    exact Sub.refl _
  · rw [h4] at hr ⊢
    repeat (first | refine uf ?_ | refine ud ?_ | refine uQ ?_ | (refine uk ?_; first | refine ul tab_ok rfl rfl rfl rfl (by first | exact trivial | omega | exact nl rfl) rfl ?_ | refine uO tab_ok rfl rfl rfl rfl rfl rfl rfl (by decide) rfl rfl rfl ?_))
    refine um (uR _ (vr nt2_10.1)) vn rfl rfl ⟨Sub.refl _, trivial⟩ rfl rfl rfl rfl ?_
    refine um (ve nt2_10) vl rfl rfl ⟨Sub.refl _, trivial⟩ rfl rfl rfl rfl ?_
    repeat (first | refine uf ?_ | refine ud ?_ | refine ug ?_ | (refine uk ?_; first | refine ul tab_ok rfl rfl rfl rfl (by first | exact trivial | omega | exact nl rfl) rfl ?_))
    refine um hr u4 rfl rfl ⟨Sub.refl _, Sub.refl _, trivial⟩ rfl rfl rfl rfl ?_
    repeat (first | refine uf ?_ | refine uc ?_ | refine ud ?_ | refine ug ?_ | (refine uk ?_; first | refine ul tab_ok rfl rfl rfl rfl (by first | exact trivial | omega | exact nl rfl) rfl ?_ | refine ux rfl rfl rfl rfl rfl rfl rfl ?_ | refine u2 tab_ok rfl rfl rfl rfl rfl rfl (by first | exact trivial | omega) rfl ?_) | refine uA rfl ?_ | refine r_g rfl rfl rfl ?_)
    refine um uT vt rfl rfl trivial rfl rfl rfl rfl ?_
    repeat (first | refine uc ?_ | refine un ?_ | refine ur ?_ | refine ug ?_ | (refine uk ?_; first | refine ul tab_ok rfl rfl rfl rfl (by first | exact trivial | omega | exact nl rfl) rfl ?_ | refine ux rfl rfl rfl rfl rfl rfl rfl ?_) | refine vh (by simp) rfl rfl rfl ?_)
    exact Sub.refl _
  · rw [h4] at hr ⊢
    repeat (first | refine uf ?_ | refine ud ?_ | refine uQ ?_ | (refine uk ?_; first | refine ul tab_ok rfl rfl rfl rfl (by first | exact trivial | omega | exact nl rfl) rfl ?_ | refine uO tab_ok rfl rfl rfl rfl rfl rfl rfl (by decide) rfl rfl rfl ?_))
    refine um (uR _ (vr nt3_10.1)) vn rfl rfl ⟨Sub.refl _, trivial⟩ rfl rfl rfl rfl ?_
    refine um (ve nt3_10) vl rfl rfl ⟨Sub.refl _, trivial⟩ rfl rfl rfl rfl ?_
    repeat (first | refine uf ?_ | refine ud ?_ | refine ug ?_ | (refine uk ?_; first | refine ul tab_ok rfl rfl rfl rfl (by first | exact trivial | omega | exact nl rfl) rfl ?_))
    refine um hr u4 rfl rfl ⟨Sub.refl _, Sub.refl _, trivial⟩ rfl rfl rfl rfl ?_
    repeat (first | refine uf ?_ | refine uc ?_ | refine ud ?_ | refine ug ?_ | (refine uk ?_; first | refine ul tab_ok rfl rfl rfl rfl (by first | exact trivial | omega | exact nl rfl) rfl ?_ | refine ux rfl rfl rfl rfl rfl rfl rfl ?_ | refine u2 tab_ok rfl rfl rfl rfl rfl rfl (by first | exact trivial | omega) rfl ?_) | refine uA rfl ?_ | refine r_g rfl rfl rfl ?_)
    refine um uT vt rfl rfl trivial rfl rfl rfl rfl ?_
    repeat (first | refine uc ?_ | refine un ?_ | refine ur ?_ | refine ug ?_ | (refine uk ?_; first | refine ul tab_ok rfl rfl rfl rfl (by first | exact trivial | omega | exact nl rfl) rfl ?_ | refine ux rfl rfl rfl rfl rfl rfl rfl ?_) | refine vh (by simp) rfl rfl rfl ?_)
    exact Sub.refl _
set_option maxHeartbeats 8000000 in
theorem dn11 (k how : Int) (hk : k % 12 = 11) : uV Tryd.prog 8 [.val (.int .i64 k), .val (.int .i64 how)] (.val (.bool true)) := by
  refine u1 Tryd.func8 Tryd.ntmps8 rfl rfl rfl fun S w => ?_
  repeat (first | refine uf ?_ | refine ud ?_ | refine ug ?_ | (refine uk ?_; first | refine ul tab_ok rfl rfl rfl rfl (by first | exact trivial | omega | exact nl rfl) rfl ?_ | refine vd tab_ok rfl rfl rfl rfl rfl rfl rfl rfl rfl ?_))
  refine um (vj k 12 (by decide) (by decide)) u4 rfl rfl ⟨Sub.refl _, Sub.refl _, trivial⟩ rfl rfl rfl rfl ?_
  rw [hk]
  repeat (first | refine uf ?_ | refine vm vb (by kernel_rfl) ?_ | refine ug ?_ | (refine uk ?_; first | refine ul tab_ok rfl rfl rfl rfl (by first | exact trivial | omega | exact nl rfl) rfl ?_ | refine uO tab_ok rfl rfl rfl rfl rfl rfl rfl (by decide) rfl rfl rfl ?_ | refine vd tab_ok rfl rfl rfl rfl rfl rfl rfl rfl rfl ?_))
  refine um (vj how 4 (by decide) (by decide)) u4 rfl rfl ⟨Sub.refl _, Sub.refl _, trivial⟩ rfl rfl rfl rfl ?_
  have h4 : how % 4 = 0 ∨ how % 4 = 1 ∨ how % 4 = 2 ∨ how % 4 = 3 := by omega
  have hr := vj how 4 (by decide) (by decide)
  rcases h4 with h4 | h4 | h4 | h4
  · rw [h4] at hr ⊢
    repeat (first | refine uf ?_ | refine ud ?_ | refine uQ ?_ | (refine uk ?_; first | refine ul tab_ok rfl rfl rfl rfl (by first | exact trivial | omega | exact nl rfl) rfl ?_ | refine uO tab_ok rfl rfl rfl rfl rfl rfl rfl (by decide) rfl rfl rfl ?_))
    refine um (uR _ (vr nt0_11.1)) vn rfl rfl ⟨Sub.refl _, trivial⟩ rfl rfl rfl rfl ?_
    refine um (ve nt0_11) vl rfl rfl ⟨Sub.refl _, trivial⟩ rfl rfl rfl rfl ?_
    repeat (first | refine uf ?_ | refine ud ?_ | refine ug ?_ | (refine uk ?_; first | refine ul tab_ok rfl rfl rfl rfl (by first | exact trivial | omega | exact nl rfl) rfl ?_))
    refine um hr u4 rfl rfl ⟨Sub.refl _, Sub.refl _, trivial⟩ rfl rfl rfl rfl ?_
    repeat (first | refine uf ?_ | refine uc ?_ | refine ud ?_ | refine uq ?_ | refine ug ?_ | (refine uk ?_; first | refine ul tab_ok rfl rfl rfl rfl (by first | exact trivial | omega | exact nl rfl) rfl ?_) | refine uF rfl ?_)
    refine um (vF ut0_11) wi rfl rfl ⟨Sub.refl _, trivial⟩ rfl rfl rfl rfl ?_
    repeat (first | refine uf ?_ | refine ud ?_ | refine vm vb (by kernel_rfl) ?_ | refine ug ?_ | (refine uk ?_; first | refine ul tab_ok rfl rfl rfl rfl (by first | exact trivial | omega | exact nl rfl) rfl ?_ | refine uO tab_ok rfl rfl rfl rfl rfl rfl rfl (by decide) rfl rfl rfl ?_ | refine vI tab_ok rfl rfl rfl rfl rfl ?_ | refine u3 tab_ok rfl rfl rfl rfl ?_ | refine ux rfl rfl rfl rfl rfl rfl rfl ?_ | refine uX rfl rfl rfl rfl rfl rfl rfl ?_ | refine u2 tab_ok rfl rfl rfl rfl rfl rfl (by first | exact trivial | omega) rfl ?_ | refine wP tab_ok rfl rfl rfl rfl rfl rfl rfl ?_) | refine r_g rfl rfl rfl ?_)
    refine um uT vt rfl rfl trivial rfl rfl rfl rfl ?_
    repeat (first | refine uc ?_ | refine un ?_ | refine uQ ?_ | (refine uk ?_; first | refine ul tab_ok rfl rfl rfl rfl (by first | exact trivial | omega | exact nl rfl) rfl ?_ | refine ux rfl rfl rfl rfl rfl rfl rfl ?_) | refine vh (by simp) rfl rfl rfl ?_)
    exact Sub.refl _
  · rw [h4] at hr ⊢
    repeat (first | refine uf ?_ | refine ud ?_ | refine uQ ?_ | (refine uk ?_; first | refine ul tab_ok rfl rfl rfl rfl (by first | exact trivial | omega | exact nl rfl) rfl ?_ | refine uO tab_ok rfl rfl rfl rfl rfl rfl rfl (by decide) rfl rfl rfl ?_))
    refine um (uR _ (vr nt1_11.1)) vn rfl rfl ⟨Sub.refl _, trivial⟩ rfl rfl rfl rfl ?_
    refine um (ve nt1_11) vl rfl rfl ⟨Sub.refl _, trivial⟩ rfl rfl rfl rfl ?_
    repeat (first | refine uf ?_ | refine ud ?_ | refine ug ?_ | (refine uk ?_; first | refine ul tab_ok rfl rfl rfl rfl (by first | exact trivial | omega | exact nl rfl) rfl ?_))
    refine um hr u4 rfl rfl ⟨Sub.refl _, Sub.refl _, trivial⟩ rfl rfl rfl rfl ?_
    repeat (first | refine uf ?_ | refine uc ?_ | refine ud ?_ | refine uq ?_ | refine ug ?_ | (refine uk ?_; first | refine ul tab_ok rfl rfl rfl rfl (by first | exact trivial | omega | exact nl rfl) rfl ?_) | refine uF rfl ?_)
    refine um (vF ut1_11) wi rfl rfl ⟨Sub.refl _, trivial⟩ rfl rfl rfl rfl ?_
    repeat (first | refine uf ?_ | refine ud ?_ | refine vm vb (by kernel_rfl) ?_ | refine ug ?_ | (refine uk ?_; first | refine ul tab_ok rfl rfl rfl rfl (by first | exact trivial | omega | exact nl rfl) rfl ?_ | refine uO tab_ok rfl rfl rfl rfl rfl rfl rfl (by decide) rfl rfl rfl ?_ | refine vI tab_ok rfl rfl rfl rfl rfl ?_ | refine u3 tab_ok rfl rfl rfl rfl ?_ | refine ux rfl rfl rfl rfl rfl rfl rfl ?_ | refine uX rfl rfl rfl rfl rfl rfl rfl ?_ | refine u2 tab_ok rfl rfl rfl rfl rfl rfl (by first | exact trivial | omega) rfl ?_ | refine wP tab_ok rfl rfl rfl rfl rfl rfl rfl ?_) | refine r_g rfl rfl rfl ?_)
    refine um uT vt rfl rfl trivial rfl rfl rfl rfl ?_
    repeat (first | refine uc ?_ | refine un ?_ | refine uQ ?_ | (refine uk ?_; first | refine ul tab_ok rfl rfl rfl rfl (by first | exact trivial | omega | exact nl rfl) rfl ?_ | refine ux rfl rfl rfl rfl rfl rfl rfl ?_) | refine vh (by simp) rfl rfl rfl ?_)
    exact Sub.refl _
  · rw [h4] at hr ⊢
    repeat (first | refine uf ?_ | refine ud ?_ | refine uQ ?_ | (refine uk ?_; first | refine ul tab_ok rfl rfl rfl rfl (by first | exact trivial | omega | exact nl rfl) rfl ?_ | refine uO tab_ok rfl rfl rfl rfl rfl rfl rfl (by decide) rfl rfl rfl ?_))
    refine um (uR _ (vr nt2_11.1)) vn rfl rfl ⟨Sub.refl _, trivial⟩ rfl rfl rfl rfl ?_
    refine um (ve nt2_11) vl rfl rfl ⟨Sub.refl _, trivial⟩ rfl rfl rfl rfl ?_
    repeat (first | refine uf ?_ | refine ud ?_ | refine ug ?_ | (refine uk ?_; first | refine ul tab_ok rfl rfl rfl rfl (by first | exact trivial | omega | exact nl rfl) rfl ?_))
    refine um hr u4 rfl rfl ⟨Sub.refl _, Sub.refl _, trivial⟩ rfl rfl rfl rfl ?_
    repeat (first | refine uf ?_ | refine uc ?_ | refine ud ?_ | refine ug ?_ | (refine uk ?_; first | refine ul tab_ok rfl rfl rfl rfl (by first | exact trivial | omega | exact nl rfl) rfl ?_ | refine ux rfl rfl rfl rfl rfl rfl rfl ?_ | refine u2 tab_ok rfl rfl rfl rfl rfl rfl (by first | exact trivial | omega) rfl ?_) | refine uA rfl ?_ | refine r_g rfl rfl rfl ?_)
    refine um uT vt rfl rfl trivial rfl rfl rfl rfl ?_
    repeat (first | refine uc ?_ | refine un ?_ | refine ur ?_ | refine ug ?_ | (refine uk ?_; first | refine ul tab_ok rfl rfl rfl rfl (by first | exact trivial | omega | exact nl rfl) rfl ?_ | refine ux rfl rfl rfl rfl rfl rfl rfl ?_) | refine vh (by simp) rfl rfl rfl ?_)
    exact Sub.refl _
  · rw [h4] at hr ⊢
    repeat (first | refine uf ?_ | refine ud ?_ | refine uQ ?_ | (refine uk ?_; first | refine ul tab_ok rfl rfl rfl rfl (by first | exact trivial | omega | exact nl rfl) rfl ?_ | refine uO tab_ok rfl rfl rfl rfl rfl rfl rfl (by decide) rfl rfl rfl ?_))
    refine um (uR _ (vr nt3_11.1)) vn rfl rfl ⟨Sub.refl _, trivial⟩ rfl rfl rfl rfl ?_
    refine um (ve nt3_11) vl rfl rfl ⟨Sub.refl _, trivial⟩ rfl rfl rfl rfl ?_
    repeat (first | refine uf ?_ | refine ud ?_ | refine ug ?_ | (refine uk ?_; first | refine ul tab_ok rfl rfl rfl rfl (by first | exact trivial | omega | exact nl rfl) rfl ?_))
    refine um hr u4 rfl rfl ⟨Sub.refl _, Sub.refl _, trivial⟩ rfl rfl rfl rfl ?_
    repeat (first | refine uf ?_ | refine uc ?_ | refine ud ?_ | refine ug ?_ | (refine uk ?_; first | refine ul tab_ok rfl rfl rfl rfl (by first | exact trivial | omega | exact nl rfl) rfl ?_ | refine ux rfl rfl rfl rfl rfl rfl rfl ?_ | refine u2 tab_ok rfl rfl rfl rfl rfl rfl (by first | exact trivial | omega) rfl ?_) | refine uA rfl ?_ | refine r_g rfl rfl rfl ?_)
    refine um uT vt rfl rfl trivial rfl rfl rfl rfl ?_
    repeat (first | refine uc ?_ | refine un ?_ | refine ur ?_ | refine ug ?_ | (refine uk ?_; first | refine ul tab_ok rfl rfl rfl rfl (by first | exact trivial | omega | exact nl rfl) rfl ?_ | refine ux rfl rfl rfl rfl rfl rfl rfl ?_) | refine vh (by simp) rfl rfl rfl ?_)
    exact Sub.refl _
end Go.Proofs.YtllmagfmbglefaaDoor
