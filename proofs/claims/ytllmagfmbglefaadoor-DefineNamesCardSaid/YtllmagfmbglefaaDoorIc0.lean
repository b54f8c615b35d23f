/- DefineNames walked, for words 0 to 3. -/
import Derived.Test.YtllmagfmbglefaaDoorIb
namespace Go.Proofs.YtllmagfmbglefaaDoor
open Go Go.RowKit
set_option maxRecDepth 20000

set_option maxHeartbeats 8000000 in
theorem dn0 (k how : Int) (hk : k % 12 = 0) : uV Tryd.prog 8 [.val (.int .i64 k), .val (.int .i64 how)] (.val (.bool true)) := by
  refine u1 Tryd.func8 Tryd.ntmps8 rfl rfl rfl fun S w => ?_
  repeat (first | refine uf ?_ | refine ud ?_ | refine ug ?_ | (refine uk ?_; first | refine ul tab_ok rfl rfl rfl rfl (by first | exact trivial | omega | exact nl rfl) rfl ?_ | refine vd tab_ok rfl rfl rfl rfl rfl rfl rfl rfl rfl ?_))
  refine um (vj k 12 (by decide) (by decide)) u4 rfl rfl ⟨Sub.refl _, Sub.refl _, trivial⟩ rfl rfl rfl rfl ?_
  rw [hk]
  repeat (first | refine uf ?_ | refine vm vb (by kernel_rfl) ?_ | refine ug ?_ | (refine uk ?_; first | refine ul tab_ok rfl rfl rfl rfl (by first | exact trivial | omega | exact nl rfl) rfl ?_ | refine uO tab_ok rfl rfl rfl rfl rfl rfl rfl (by decide) rfl rfl rfl ?_ | refine vd tab_ok rfl rfl rfl rfl rfl rfl rfl rfl rfl ?_))
  refine um (vj how 4 (by decide) (by decide)) u4 rfl rfl ⟨Sub.refl _, Sub.refl _, trivial⟩ rfl rfl rfl rfl ?_
  have h4 : how % 4 = 0 ∨ how % 4 = 1 ∨ how % 4 = 2 ∨ how % 4 = 3 := by omega
  have hr := vj how 4 (by decide) (by decide)
  rcases h4 with h4 | h4 | h4 | h4
  · rw [h4] at hr ⊢
    repeat (first | refine uf ?_ | refine ud ?_ | refine uQ ?_ | (refine uk ?_; first | refine ul tab_ok rfl rfl rfl rfl (by first | exact trivial | omega | exact nl rfl) rfl ?_ | refine uO tab_ok rfl rfl rfl rfl rfl rfl rfl (by decide) rfl rfl rfl ?_))
    refine um (uR _ (vr nt0_0.1)) vn rfl rfl ⟨Sub.refl _, trivial⟩ rfl rfl rfl rfl ?_
    refine um (ve nt0_0) vl rfl rfl ⟨Sub.refl _, trivial⟩ rfl rfl rfl rfl ?_
    repeat (first | refine uf ?_ | refine ud ?_ | refine ug ?_ | (refine uk ?_; first | refine ul tab_ok rfl rfl rfl rfl (by first | exact trivial | omega | exact nl rfl) rfl ?_))
    refine um hr u4 rfl rfl ⟨Sub.refl _, Sub.refl _, trivial⟩ rfl rfl rfl rfl ?_
    repeat (first | refine uf ?_ | refine uc ?_ | refine ud ?_ | refine uq ?_ | refine ug ?_ | (refine uk ?_; first | refine ul tab_ok rfl rfl rfl rfl (by first | exact trivial | omega | exact nl rfl) rfl ?_) | refine uF rfl ?_)
    refine um (vF ut0_0) wi rfl rfl ⟨Sub.refl _, trivial⟩ rfl rfl rfl rfl ?_
    repeat (first | refine uf ?_ | refine ud ?_ | refine vm vb (by kernel_rfl) ?_ | refine ug ?_ | (refine uk ?_; first | refine ul tab_ok rfl rfl rfl rfl (by first | exact trivial | omega | exact nl rfl) rfl ?_ | refine uO tab_ok rfl rfl rfl rfl rfl rfl rfl (by decide) rfl rfl rfl ?_ | refine vI tab_ok rfl rfl rfl rfl rfl ?_ | refine u3 tab_ok rfl rfl rfl rfl ?_ | refine ux rfl rfl rfl rfl rfl rfl rfl ?_ | refine uX rfl rfl rfl rfl rfl rfl rfl ?_ | refine u2 tab_ok rfl rfl rfl rfl rfl rfl (by first | exact trivial | omega) rfl ?_ | refine wP tab_ok rfl rfl rfl rfl rfl rfl rfl ?_) | refine r_g rfl rfl rfl ?_)
    refine um uT vt rfl rfl trivial rfl rfl rfl rfl ?_
    repeat (first | refine uc ?_ | refine un ?_ | refine uQ ?_ | (refine uk ?_; first | refine ul tab_ok rfl rfl rfl rfl (by first | exact trivial | omega | exact nl rfl) rfl ?_ | refine ux rfl rfl rfl rfl rfl rfl rfl ?_) | refine vh (by simp) rfl rfl rfl ?_)
    exact Sub.refl _
  · rw [h4] at hr ⊢
    repeat (first | refine uf ?_ | refine ud ?_ | refine uQ ?_ | (refine uk ?_; first | refine ul tab_ok rfl rfl rfl rfl (by first | exact trivial | omega | exact nl rfl) rfl ?_ | refine uO tab_ok rfl rfl rfl rfl rfl rfl rfl (by decide) rfl rfl rfl ?_))
    refine um (uR _ (vr nt1_0.1)) vn rfl rfl ⟨Sub.refl _, trivial⟩ rfl rfl rfl rfl ?_
    refine um (ve nt1_0) vl rfl rfl ⟨Sub.refl _, trivial⟩ rfl rfl rfl rfl ?_
    repeat (first | refine uf ?_ | refine ud ?_ | refine ug ?_ | (refine uk ?_; first | refine ul tab_ok rfl rfl rfl rfl (by first | exact trivial | omega | exact nl rfl) rfl ?_))
    refine um hr u4 rfl rfl ⟨Sub.refl _, Sub.refl _, trivial⟩ rfl rfl rfl rfl ?_
    repeat (first | refine uf ?_ | refine uc ?_ | refine ud ?_ | refine uq ?_ | refine ug ?_ | (refine uk ?_; first | refine ul tab_ok rfl rfl rfl rfl (by first | exact trivial | omega | exact nl rfl) rfl ?_) | refine uF rfl ?_)
    refine um (vF ut1_0) wi rfl rfl ⟨Sub.refl _, trivial⟩ rfl rfl rfl rfl ?_
    repeat (first | refine uf ?_ | refine ud ?_ | refine vm vb (by kernel_rfl) ?_ | refine ug ?_ | (refine uk ?_; first | refine ul tab_ok rfl rfl rfl rfl (by first | exact trivial | omega | exact nl rfl) rfl ?_ | refine uO tab_ok rfl rfl rfl rfl rfl rfl rfl (by decide) rfl rfl rfl ?_ | refine vI tab_ok rfl rfl rfl rfl rfl ?_ | refine u3 tab_ok rfl rfl rfl rfl ?_ | refine ux rfl rfl rfl rfl rfl rfl rfl ?_ | refine uX rfl rfl rfl rfl rfl rfl rfl ?_ | refine u2 tab_ok rfl rfl rfl rfl rfl rfl (by first | exact trivial | omega) rfl ?_ | refine wP tab_ok rfl rfl rfl rfl rfl rfl rfl ?_) | refine r_g rfl rfl rfl ?_)
    refine um uT vt rfl rfl trivial rfl rfl rfl rfl ?_
    repeat (first | refine uc ?_ | refine un ?_ | refine uQ ?_ | (refine uk ?_; first | refine ul tab_ok rfl rfl rfl rfl (by first | exact trivial | omega | exact nl rfl) rfl ?_ | refine ux rfl rfl rfl rfl rfl rfl rfl ?_) | refine vh (by simp) rfl rfl rfl ?_)
    exact Sub.refl _
  · rw [h4] at hr ⊢
    repeat (first | refine uf ?_ | refine ud ?_ | refine uQ ?_ | (refine uk ?_; first | refine ul tab_ok rfl rfl rfl rfl (by first | exact trivial | omega | exact nl rfl) rfl ?_ | refine uO tab_ok rfl rfl rfl rfl rfl rfl rfl (by decide) rfl rfl rfl ?_))
    refine um (uR _ (vr nt2_0.1)) vn rfl rfl ⟨Sub.refl _, trivial⟩ rfl rfl rfl rfl ?_
    refine um (ve nt2_0) vl rfl rfl ⟨Sub.refl _, trivial⟩ rfl rfl rfl rfl ?_
    repeat (first | refine uf ?_ | refine ud ?_ | refine ug ?_ | (refine uk ?_; first | refine ul tab_ok rfl rfl rfl rfl (by first | exact trivial | omega | exact nl rfl) rfl ?_))
    refine um hr u4 rfl rfl ⟨Sub.refl _, Sub.refl _, trivial⟩ rfl rfl rfl rfl ?_
    repeat (first | refine uf ?_ | refine uc ?_ | refine ud ?_ | refine ug ?_ | (refine uk ?_; first | refine ul tab_ok rfl rfl rfl rfl (by first | exact trivial | omega | exact nl rfl) rfl ?_ | refine ux rfl rfl rfl rfl rfl rfl rfl ?_ | refine u2 tab_ok rfl rfl rfl rfl rfl rfl (by first | exact trivial | omega) rfl ?_) | refine uA rfl ?_ | refine r_g rfl rfl rfl ?_)
    refine um uT vt rfl rfl trivial rfl rfl rfl rfl ?_
    repeat (first | refine uc ?_ | refine un ?_ | refine ur ?_ | refine ug ?_ | (refine uk ?_; first | refine ul tab_ok rfl rfl rfl rfl (by first | exact trivial | omega | exact nl rfl) rfl ?_ | refine ux rfl rfl rfl rfl rfl rfl rfl ?_) | refine vh (by simp) rfl rfl rfl ?_)
    exact Sub.refl _
  · rw [h4] at hr ⊢
    repeat (first | refine uf ?_ | refine ud ?_ | refine uQ ?_ | (refine uk ?_; first | refine ul tab_ok rfl rfl rfl rfl (by first | exact trivial | omega | exact nl rfl) rfl ?_ | refine uO tab_ok rfl rfl rfl rfl rfl rfl rfl (by decide) rfl rfl rfl ?_))
    refine um (uR _ (vr nt3_0.1)) vn rfl rfl ⟨Sub.refl _, trivial⟩ rfl rfl rfl rfl ?_
    refine um (ve nt3_0) vl rfl rfl ⟨Sub.refl _, trivial⟩ rfl rfl rfl rfl ?_
    repeat (first | refine uf ?_ | refine ud ?_ | refine ug ?_ | (refine uk ?_; first | refine ul tab_ok rfl rfl rfl rfl (by first | exact trivial | omega | exact nl rfl) rfl ?_))
    refine um hr u4 rfl rfl ⟨Sub.refl _, Sub.refl _, trivial⟩ rfl rfl rfl rfl ?_
    repeat (first | refine uf ?_ | refine uc ?_ | refine ud ?_ | refine ug ?_ | (refine uk ?_; first | refine ul tab_ok rfl rfl rfl rfl (by first | exact trivial | omega | exact nl rfl) rfl ?_ | refine ux rfl rfl rfl rfl rfl rfl rfl ?_ | refine u2 tab_ok rfl rfl rfl rfl rfl rfl (by first | exact trivial | omega) rfl ?_) | refine uA rfl ?_ | refine r_g rfl rfl rfl ?_)
    refine um uT vt rfl rfl trivial rfl rfl rfl rfl ?_
    repeat (first | refine uc ?_ | refine un ?_ | refine ur ?_ | refine ug ?_ | (refine uk ?_; first | refine ul tab_ok rfl rfl rfl rfl (by first | exact trivial | omega | exact nl rfl) rfl ?_ | refine ux rfl rfl rfl rfl rfl rfl rfl ?_) | refine vh (by simp) rfl rfl rfl ?_)
    exact Sub.refl _
set_option maxHeartbeats 8000000 in
theorem dn1 (k how : Int) (hk : k % 12 = 1) : uV Tryd.prog 8 [.val (.int .i64 k), .val (.int .i64 how)] (.val (.bool true)) := by
  refine u1 Tryd.func8 Tryd.ntmps8 rfl rfl rfl fun S w => ?_
  repeat (first | refine uf ?_ | refine ud ?_ | refine ug ?_ | (refine uk ?_; first | refine ul tab_ok rfl rfl rfl rfl (by first | exact trivial | omega | exact nl rfl) rfl ?_ | refine vd tab_ok rfl rfl rfl rfl rfl rfl rfl rfl rfl ?_))
  refine um (vj k 12 (by decide) (by decide)) u4 rfl rfl ⟨Sub.refl _, Sub.refl _, trivial⟩ rfl rfl rfl rfl ?_
  rw [hk]
  repeat (first | refine uf ?_ | refine vm vb (by kernel_rfl) ?_ | refine ug ?_ | (refine uk ?_; first | refine ul tab_ok rfl rfl rfl rfl (by first | exact trivial | omega | exact nl rfl) rfl ?_ | refine uO tab_ok rfl rfl rfl rfl rfl rfl rfl (by decide) rfl rfl rfl ?_ | refine vd tab_ok rfl rfl rfl rfl rfl rfl rfl rfl rfl ?_))
  refine um (vj how 4 (by decide) (by decide)) u4 rfl rfl ⟨Sub.refl _, Sub.refl _, trivial⟩ rfl rfl rfl rfl ?_
  have h4 : how % 4 = 0 ∨ how % 4 = 1 ∨ how % 4 = 2 ∨ how % 4 = 3 := by omega
  have hr := vj how 4 (by decide) (by decide)
  rcases h4 with h4 | h4 | h4 | h4
  · rw [h4] at hr ⊢
    repeat (first | refine uf ?_ | refine ud ?_ | refine uQ ?_ | (refine uk ?_; first | refine ul tab_ok rfl rfl rfl rfl (by first | exact trivial | omega | exact nl rfl) rfl ?_ | refine uO tab_ok rfl rfl rfl rfl rfl rfl rfl (by decide) rfl rfl rfl ?_))
    refine um (uR _ (vr nt0_1.1)) vn rfl rfl ⟨Sub.refl _, trivial⟩ rfl rfl rfl rfl ?_
    refine um (ve nt0_1) vl rfl rfl ⟨Sub.refl _, trivial⟩ rfl rfl rfl rfl ?_
    repeat (first | refine uf ?_ | refine ud ?_ | refine ug ?_ | (refine uk ?_; first | refine ul tab_ok rfl rfl rfl rfl (by first | exact trivial | omega | exact nl rfl) rfl ?_))
    refine um hr u4 rfl rfl ⟨Sub.refl _, Sub.refl _, trivial⟩ rfl rfl rfl rfl ?_
    repeat (first | refine uf ?_ | refine uc ?_ | refine ud ?_ | refine uq ?_ | refine ug ?_ | (refine uk ?_; first | refine ul tab_ok rfl rfl rfl rfl (by first | exact trivial | omega | exact nl rfl) rfl ?_) | refine uF rfl ?_)
    refine um (vF ut0_1) wi rfl rfl ⟨Sub.refl _, trivial⟩ rfl rfl rfl rfl ?_
    repeat (first | refine uf ?_ | refine ud ?_ | refine vm vb (by kernel_rfl) ?_ | refine ug ?_ | (refine uk ?_; first | refine ul tab_ok rfl rfl rfl rfl (by first | exact trivial | omega | exact nl rfl) rfl ?_ | refine uO tab_ok rfl rfl rfl rfl rfl rfl rfl (by decide) rfl rfl rfl ?_ | refine vI tab_ok rfl rfl rfl rfl rfl ?_ | refine u3 tab_ok rfl rfl rfl rfl ?_ | refine ux rfl rfl rfl rfl rfl rfl rfl ?_ | refine uX rfl rfl rfl rfl rfl rfl rfl ?_ | refine u2 tab_ok rfl rfl rfl rfl rfl rfl (by first | exact trivial | omega) rfl ?_ | refine wP tab_ok rfl rfl rfl rfl rfl rfl rfl ?_) | refine r_g rfl rfl rfl ?_)
    refine um uT vt rfl rfl trivial rfl rfl rfl rfl ?_
    repeat (first | refine uc ?_ | refine un ?_ | refine uQ ?_ | (refine uk ?_; first | refine ul tab_ok rfl rfl rfl rfl (by first | exact trivial | omega | exact nl rfl) rfl ?_ | refine ux rfl rfl rfl rfl rfl rfl rfl ?_) | refine vh (by simp) rfl rfl rfl ?_)
    exact Sub.refl _
  · rw [h4] at hr ⊢
    repeat (first | refine uf ?_ | refine ud ?_ | refine uQ ?_ | (refine uk ?_; first | refine ul tab_ok rfl rfl rfl rfl (by first | exact trivial | omega | exact nl rfl) rfl ?_ | refine uO tab_ok rfl rfl rfl rfl rfl rfl rfl (by decide) rfl rfl rfl ?_))
    refine um (uR _ (vr nt1_1.1)) vn rfl rfl ⟨Sub.refl _, trivial⟩ rfl rfl rfl rfl ?_
    refine um (ve nt1_1) vl rfl rfl ⟨Sub.refl _, trivial⟩ rfl rfl rfl rfl ?_
    repeat (first | refine uf ?_ | refine ud ?_ | refine ug ?_ | (refine uk ?_; first | refine ul tab_ok rfl rfl rfl rfl (by first | exact trivial | omega | exact nl rfl) rfl ?_))
    refine um hr u4 rfl rfl ⟨Sub.refl _, Sub.refl _, trivial⟩ rfl rfl rfl rfl ?_
    repeat (first | refine uf ?_ | refine uc ?_ | refine ud ?_ | refine uq ?_ | refine ug ?_ | (refine uk ?_; first | refine ul tab_ok rfl rfl rfl rfl (by first | exact trivial | omega | exact nl rfl) rfl ?_) | refine uF rfl ?_)
    refine um (vF ut1_1) wi rfl rfl ⟨Sub.refl _, trivial⟩ rfl rfl rfl rfl ?_
    repeat (first | refine uf ?_ | refine ud ?_ | refine vm vb (by kernel_rfl) ?_ | refine ug ?_ | (refine uk ?_; first | refine ul tab_ok rfl rfl rfl rfl (by first | exact trivial | omega | exact nl rfl) rfl ?_ | refine uO tab_ok rfl rfl rfl rfl rfl rfl rfl (by decide) rfl rfl rfl ?_ | refine vI tab_ok rfl rfl rfl rfl rfl ?_ | refine u3 tab_ok rfl rfl rfl rfl ?_ | refine ux rfl rfl rfl rfl rfl rfl rfl ?_ | refine uX rfl rfl rfl rfl rfl rfl rfl ?_ | refine u2 tab_ok rfl rfl rfl rfl rfl rfl (by first | exact trivial | omega) rfl ?_ | refine wP tab_ok rfl rfl rfl rfl rfl rfl rfl ?_) | refine r_g rfl rfl rfl ?_)
    refine um uT vt rfl rfl trivial rfl rfl rfl rfl ?_
    repeat (first | refine uc ?_ | refine un ?_ | refine uQ ?_ | (refine uk ?_; first | refine ul tab_ok rfl rfl rfl rfl (by first | exact trivial | omega | exact nl rfl) rfl ?_ | refine ux rfl rfl rfl rfl rfl rfl rfl ?_) | refine vh (by simp) rfl rfl rfl ?_)
    exact Sub.refl _
  · rw [h4] at hr ⊢
    repeat (first | refine uf ?_ | refine ud ?_ | refine uQ ?_ | (refine uk ?_; first | refine ul tab_ok rfl rfl rfl rfl (by first | exact trivial | omega | exact nl rfl) rfl ?_ | refine uO tab_ok rfl rfl rfl rfl rfl rfl rfl (by decide) rfl rfl rfl ?_))
    refine um (uR _ (vr nt2_1.1)) vn rfl rfl ⟨Sub.refl _, trivial⟩ rfl rfl rfl rfl ?_
    refine um (ve nt2_1) vl rfl rfl ⟨Sub.refl _, trivial⟩ rfl rfl rfl rfl ?_
    repeat (first | refine uf ?_ | refine ud ?_ | refine ug ?_ | (refine uk ?_; first | refine ul tab_ok rfl rfl rfl rfl (by first | exact trivial | omega | exact nl rfl) rfl ?_))
    refine um hr u4 rfl rfl ⟨Sub.refl _, Sub.refl _, trivial⟩ rfl rfl rfl rfl ?_
    repeat (first | refine uf ?_ | refine uc ?_ | refine ud ?_ | refine ug ?_ | (refine uk ?_; first | refine ul tab_ok rfl rfl rfl rfl (by first | exact trivial | omega | exact nl rfl) rfl ?_ | refine ux rfl rfl rfl rfl rfl rfl rfl ?_ | refine u2 tab_ok rfl rfl rfl rfl rfl rfl (by first | exact trivial | omega) rfl ?_) | refine uA rfl ?_ | refine r_g rfl rfl rfl ?_)
    refine um uT vt rfl rfl trivial rfl rfl rfl rfl ?_
    repeat (first | refine uc ?_ | refine un ?_ | refine ur ?_ | refine ug ?_ | (refine uk ?_; first | refine ul tab_ok rfl rfl rfl rfl (by first | exact trivial | omega | exact nl rfl) rfl ?_ | refine ux rfl rfl rfl rfl rfl rfl rfl ?_) | refine vh (by simp) rfl rfl rfl ?_)
    exact Sub.refl _
  · rw [h4] at hr ⊢
    repeat (first | refine uf ?_ | refine ud ?_ | refine uQ ?_ | (refine uk ?_; first | refine ul tab_ok rfl rfl rfl rfl (by first | exact trivial | omega | exact nl rfl) rfl ?_ | refine uO tab_ok rfl rfl rfl rfl rfl rfl rfl (by decide) rfl rfl rfl ?_))
    refine um (uR _ (vr nt3_1.1)) vn rfl rfl ⟨Sub.refl _, trivial⟩ rfl rfl rfl rfl ?_
    refine um (ve nt3_1) vl rfl rfl ⟨Sub.refl _, trivial⟩ rfl rfl rfl rfl ?_
    repeat (first | refine uf ?_ | refine ud ?_ | refine ug ?_ | (refine uk ?_; first | refine ul tab_ok rfl rfl rfl rfl (by first | exact trivial | omega | exact nl rfl) rfl ?_))
    refine um hr u4 rfl rfl ⟨Sub.refl _, Sub.refl _, trivial⟩ rfl rfl rfl rfl ?_
    repeat (first | refine uf ?_ | refine uc ?_ | refine ud ?_ | refine ug ?_ | (refine uk ?_; first | refine ul tab_ok rfl rfl rfl rfl (by first | exact trivial | omega | exact nl rfl) rfl ?_ | refine ux rfl rfl rfl rfl rfl rfl rfl ?_ | refine u2 tab_ok rfl rfl rfl rfl rfl rfl (by first | exact trivial | omega) rfl ?_) | refine uA rfl ?_ | refine r_g rfl rfl rfl ?_)
    refine um uT vt rfl rfl trivial rfl rfl rfl rfl ?_
    repeat (first | refine uc ?_ | refine un ?_ | refine ur ?_ | refine ug ?_ | (refine uk ?_; first | refine ul tab_ok rfl rfl rfl rfl (by first | exact trivial | omega | exact nl rfl) rfl ?_ | refine ux rfl rfl rfl rfl rfl rfl rfl ?_) | refine vh (by simp) rfl rfl rfl ?_)
    exact Sub.refl _
set_option maxHeartbeats 8000000 in
theorem dn2 (k how : Int) (hk : k % 12 = 2) : uV Tryd.prog 8 [.val (.int .i64 k), .val (.int .i64 how)] (.val (.bool true)) := by
  refine u1 Tryd.func8 Tryd.ntmps8 rfl rfl rfl fun S w => ?_
  repeat (first | refine uf ?_ | refine ud ?_ | refine ug ?_ | (refine uk ?_; first | refine ul tab_ok rfl rfl rfl rfl (by first | exact trivial | omega | exact nl rfl) rfl ?_ | refine vd tab_ok rfl rfl rfl rfl rfl rfl rfl rfl rfl ?_))
  refine um (vj k 12 (by decide) (by decide)) u4 rfl rfl ⟨Sub.refl _, Sub.refl _, trivial⟩ rfl rfl rfl rfl ?_
  rw [hk]
  repeat (first | refine uf ?_ | refine vm vb (by kernel_rfl) ?_ | refine ug ?_ | (refine uk ?_; first | refine ul tab_ok rfl rfl rfl rfl (by first | exact trivial | omega | exact nl rfl) rfl ?_ | refine uO tab_ok rfl rfl rfl rfl rfl rfl rfl (by decide) rfl rfl rfl ?_ | refine vd tab_ok rfl rfl rfl rfl rfl rfl rfl rfl rfl ?_))
  refine um (vj how 4 (by decide) (by decide)) u4 rfl rfl ⟨Sub.refl _, Sub.refl _, trivial⟩ rfl rfl rfl rfl ?_
  have h4 : how % 4 = 0 ∨ how % 4 = 1 ∨ how % 4 = 2 ∨ how % 4 = 3 := by omega
  have hr := vj how 4 (by decide) (by decide)
  rcases h4 with h4 | h4 | h4 | h4
  · rw [h4] at hr ⊢
    repeat (first | refine uf ?_ | refine ud ?_ | refine uQ ?_ | (refine uk ?_; first | refine ul tab_ok rfl rfl rfl rfl (by first | exact trivial | omega | exact nl rfl) rfl ?_ | refine uO tab_ok rfl rfl rfl rfl rfl rfl rfl (by decide) rfl rfl rfl ?_))
    refine um (uR _ (vr nt0_2.1)) vn rfl rfl ⟨Sub.refl _, trivial⟩ rfl rfl rfl rfl ?_
    refine um (ve nt0_2) vl rfl rfl ⟨Sub.refl _, trivial⟩ rfl rfl rfl rfl ?_
    repeat (first | refine uf ?_ | refine ud ?_ | refine ug ?_ | (refine uk ?_; first | refine ul tab_ok rfl rfl rfl rfl (by first | exact trivial | omega | exact nl rfl) rfl ?_))
    refine um hr u4 rfl rfl ⟨Sub.refl _, Sub.refl _, trivial⟩ rfl rfl rfl rfl ?_
    repeat (first | refine uf ?_ | refine uc ?_ | refine ud ?_ | refine uq ?_ | refine ug ?_ | (refine uk ?_; first | refine ul tab_ok rfl rfl rfl rfl (by first | exact trivial | omega | exact nl rfl) rfl ?_) | refine uF rfl ?_)
    refine um (vF ut0_2) wi rfl rfl ⟨Sub.refl _, trivial⟩ rfl rfl rfl rfl ?_
    repeat (first | refine uf ?_ | refine ud ?_ | refine vm vb (by kernel_rfl) ?_ | refine ug ?_ | (refine uk ?_; first | refine ul tab_ok rfl rfl rfl rfl (by first | exact trivial | omega | exact nl rfl) rfl ?_ | refine uO tab_ok rfl rfl rfl rfl rfl rfl rfl (by decide) rfl rfl rfl ?_ | refine vI tab_ok rfl rfl rfl rfl rfl ?_ | refine u3 tab_ok rfl rfl rfl rfl ?_ | refine ux rfl rfl rfl rfl rfl rfl rfl ?_ | refine uX rfl rfl rfl rfl rfl rfl rfl ?_ | refine vG rfl rfl rfl rfl rfl rfl ?_ | refine u2 tab_ok rfl rfl rfl rfl rfl rfl (by first | exact trivial | omega) rfl ?_) | refine r_g rfl rfl rfl ?_)
    refine um uT vt rfl rfl trivial rfl rfl rfl rfl ?_
    repeat (first | refine uc ?_ | refine un ?_ | refine uQ ?_ | (refine uk ?_; first | refine ul tab_ok rfl rfl rfl rfl (by first | exact trivial | omega | exact nl rfl) rfl ?_ | refine ux rfl rfl rfl rfl rfl rfl rfl ?_) | refine vh (by simp) rfl rfl rfl ?_)
    exact Sub.refl _
  · rw [h4] at hr ⊢
    repeat (first | refine uf ?_ | refine ud ?_ | refine uQ ?_ | (refine uk ?_; first | refine ul tab_ok rfl rfl rfl rfl (by first | exact trivial | omega | exact nl rfl) rfl ?_ | refine uO tab_ok rfl rfl rfl rfl rfl rfl rfl (by decide) rfl rfl rfl ?_))
    refine um (uR _ (vr nt1_2.1)) vn rfl rfl ⟨Sub.refl _, trivial⟩ rfl rfl rfl rfl ?_
    refine um (ve nt1_2) vl rfl rfl ⟨Sub.refl _, trivial⟩ rfl rfl rfl rfl ?_
    repeat (first | refine uf ?_ | refine ud ?_ | refine ug ?_ | (refine uk ?_; first | refine ul tab_ok rfl rfl rfl rfl (by first | exact trivial | omega | exact nl rfl) rfl ?_))
    refine um hr u4 rfl rfl ⟨Sub.refl _, Sub.refl _, trivial⟩ rfl rfl rfl rfl ?_
    repeat (first | refine uf ?_ | refine uc ?_ | refine ud ?_ | refine uq ?_ | refine ug ?_ | (refine uk ?_; first | refine ul tab_ok rfl rfl rfl rfl (by first | exact trivial | omega | exact nl rfl) rfl ?_) | refine uF rfl ?_)
    refine um (vF ut1_2) wi rfl rfl ⟨Sub.refl _, trivial⟩ rfl rfl rfl rfl ?_
    repeat (first | refine uf ?_ | refine ud ?_ | refine vm vb (by kernel_rfl) ?_ | refine ug ?_ | (refine uk ?_; first | refine ul tab_ok rfl rfl rfl rfl (by first | exact trivial | omega | exact nl rfl) rfl ?_ | refine uO tab_ok rfl rfl rfl rfl rfl rfl rfl (by decide) rfl rfl rfl ?_ | refine vI tab_ok rfl rfl rfl rfl rfl ?_ | refine u3 tab_ok rfl rfl rfl rfl ?_ | refine ux rfl rfl rfl rfl rfl rfl rfl ?_ | refine uX rfl rfl rfl rfl rfl rfl rfl ?_ | refine vG rfl rfl rfl rfl rfl rfl ?_ | refine u2 tab_ok rfl rfl rfl rfl rfl rfl (by first | exact trivial | omega) rfl ?_) | refine r_g rfl rfl rfl ?_)
    refine um uT vt rfl rfl trivial rfl rfl rfl rfl ?_
    repeat (first | refine uc ?_ | refine un ?_ | refine uQ ?_ | (refine uk ?_; first | refine ul tab_ok rfl rfl rfl rfl (by first | exact trivial | omega | exact nl rfl) rfl ?_ | refine ux rfl rfl rfl rfl rfl rfl rfl ?_) | refine vh (by simp) rfl rfl rfl ?_)
    exact Sub.refl _
  · rw [h4] at hr ⊢
    repeat (first | refine uf ?_ | refine ud ?_ | refine uQ ?_ | (refine uk ?_; first | refine ul tab_ok rfl rfl rfl rfl (by first | exact trivial | omega | exact nl rfl) rfl ?_ | refine uO tab_ok rfl rfl rfl rfl rfl rfl rfl (by decide) rfl rfl rfl ?_))
    refine um (uR _ (vr nt2_2.1)) vn rfl rfl ⟨Sub.refl _, trivial⟩ rfl rfl rfl rfl ?_
    refine um (ve nt2_2) vl rfl rfl ⟨Sub.refl _, trivial⟩ rfl rfl rfl rfl ?_
    repeat (first | refine uf ?_ | refine ud ?_ | refine ug ?_ | (refine uk ?_; first | refine ul tab_ok rfl rfl rfl rfl (by first | exact trivial | omega | exact nl rfl) rfl ?_))
    refine um hr u4 rfl rfl ⟨Sub.refl _, Sub.refl _, trivial⟩ rfl rfl rfl rfl ?_
    repeat (first | refine uf ?_ | refine uc ?_ | refine ud ?_ | refine ug ?_ | (refine uk ?_; first | refine ul tab_ok rfl rfl rfl rfl (by first | exact trivial | omega | exact nl rfl) rfl ?_ | refine ux rfl rfl rfl rfl rfl rfl rfl ?_ | refine u2 tab_ok rfl rfl rfl rfl rfl rfl (by first | exact trivial | omega) rfl ?_) | refine uA rfl ?_ | refine r_g rfl rfl rfl ?_)
    refine um uT vt rfl rfl trivial rfl rfl rfl rfl ?_
    repeat (first | refine uc ?_ | refine un ?_ | refine ur ?_ | refine ug ?_ | (refine uk ?_; first | refine ul tab_ok rfl rfl rfl rfl (by first | exact trivial | omega | exact nl rfl) rfl ?_ | refine ux rfl rfl rfl rfl rfl rfl rfl ?_) | refine vh (by simp) rfl rfl rfl ?_)
    exact Sub.refl _
  · rw [h4] at hr ⊢
    repeat (first | refine uf ?_ | refine ud ?_ | refine uQ ?_ | (refine uk ?_; first | refine ul tab_ok rfl rfl rfl rfl (by first | exact trivial | omega | exact nl rfl) rfl ?_ | refine uO tab_ok rfl rfl rfl rfl rfl rfl rfl (by decide) rfl rfl rfl ?_))
    refine um (uR _ (vr nt3_2.1)) vn rfl rfl ⟨Sub.refl _, trivial⟩ rfl rfl rfl rfl ?_
    refine um (ve nt3_2) vl rfl rfl ⟨Sub.refl _, trivial⟩ rfl rfl rfl rfl ?_
    repeat (first | refine uf ?_ | refine ud ?_ | refine ug ?_ | (refine uk ?_; first | refine ul tab_ok rfl rfl rfl rfl (by first | exact trivial | omega | exact nl rfl) rfl ?_))
    refine um hr u4 rfl rfl ⟨Sub.refl _, Sub.refl _, trivial⟩ rfl rfl rfl rfl ?_
    repeat (first | refine uf ?_ | refine uc ?_ | refine ud ?_ | refine ug ?_ | (refine uk ?_; first | refine ul tab_ok rfl rfl rfl rfl (by first | exact trivial | omega | exact nl rfl) rfl ?_ | refine ux rfl rfl rfl rfl rfl rfl rfl ?_ | refine u2 tab_ok rfl rfl rfl rfl rfl rfl (by first | exact trivial | omega) rfl ?_) | refine uA rfl ?_ | refine r_g rfl rfl rfl ?_)
    refine um uT vt rfl rfl trivial rfl rfl rfl rfl ?_
    repeat (first | refine uc ?_ | refine un ?_ | refine ur ?_ | refine ug ?_ | (refine uk ?_; first | refine ul tab_ok rfl rfl rfl rfl (by first | exact trivial | omega | exact nl rfl) rfl ?_ | refine ux rfl rfl rfl rfl rfl rfl rfl ?_) | refine vh (by simp) rfl rfl rfl ?_)
    exact Sub.refl _
set_option maxHeartbeats 8000000 in
theorem dn3 (k how : Int) (hk : k % 12 = 3) : uV Tryd.prog 8 [.val (.int .i64 k), .val (.int .i64 how)] (.val (.bool true)) := by
  refine u1 Tryd.func8 Tryd.ntmps8 rfl rfl rfl fun S w => ?_
  repeat (first | refine uf ?_ | refine ud ?_ | refine ug ?_ | (refine uk ?_; first | refine ul tab_ok rfl rfl rfl rfl (by first | exact trivial | omega | exact nl rfl) rfl ?_ | refine vd tab_ok rfl rfl rfl rfl rfl rfl rfl rfl rfl ?_))
  refine um (vj k 12 (by decide) (by decide)) u4 rfl rfl ⟨Sub.refl _, Sub.refl _, trivial⟩ rfl rfl rfl rfl ?_
  rw [hk]
  repeat (first | refine uf ?_ | refine vm vb (by kernel_rfl) ?_ | refine ug ?_ | (refine uk ?_; first | refine ul tab_ok rfl rfl rfl rfl (by first | exact trivial | omega | exact nl rfl) rfl ?_ | refine uO tab_ok rfl rfl rfl rfl rfl rfl rfl (by decide) rfl rfl rfl ?_ | refine vd tab_ok rfl rfl rfl rfl rfl rfl rfl rfl rfl ?_))
  refine um (vj how 4 (by decide) (by decide)) u4 rfl rfl ⟨Sub.refl _, Sub.refl _, trivial⟩ rfl rfl rfl rfl ?_
  have h4 : how % 4 = 0 ∨ how % 4 = 1 ∨ how % 4 = 2 ∨ how % 4 = 3 := by omega
  have hr := vj how 4 (by decide) (by decide)
  rcases h4 with h4 | h4 | h4 | h4
  · rw [h4] at hr ⊢
    repeat (first | refine uf ?_ | refine ud ?_ | refine uQ ?_ | (refine uk ?_; first | refine ul tab_ok rfl rfl rfl rfl (by first | exact trivial | omega | exact nl rfl) rfl ?_ | refine uO tab_ok rfl rfl rfl rfl rfl rfl rfl (by decide) rfl rfl rfl ?_))
    refine um (uR _ (vr nt0_3.1)) vn rfl rfl ⟨Sub.refl _, trivial⟩ rfl rfl rfl rfl ?_
    refine um (ve nt0_3) vl rfl rfl ⟨Sub.refl _, trivial⟩ rfl rfl rfl rfl ?_
    repeat (first | refine uf ?_ | refine ud ?_ | refine ug ?_ | (refine uk ?_; first | refine ul tab_ok rfl rfl rfl rfl (by first | exact trivial | omega | exact nl rfl) rfl ?_))
    refine um hr u4 rfl rfl ⟨Sub.refl _, Sub.refl _, trivial⟩ rfl rfl rfl rfl ?_
    repeat (first | refine uf ?_ | refine uc ?_ | refine ud ?_ | refine uq ?_ | refine ug ?_ | (refine uk ?_; first | refine ul tab_ok rfl rfl rfl rfl (by first | exact trivial | omega | exact nl rfl) rfl ?_) | refine uF rfl ?_)
    refine um (vF ut0_3) wi rfl rfl ⟨Sub.refl _, trivial⟩ rfl rfl rfl rfl ?_
    repeat (first | refine uf ?_ | refine ud ?_ | refine vm vb (by kernel_rfl) ?_ | refine ug ?_ | (refine uk ?_; first | refine ul tab_ok rfl rfl rfl rfl (by first | exact trivial | omega | exact nl rfl) rfl ?_ | refine uO tab_ok rfl rfl rfl rfl rfl rfl rfl (by decide) rfl rfl rfl ?_ | refine vI tab_ok rfl rfl rfl rfl rfl ?_ | refine u3 tab_ok rfl rfl rfl rfl ?_ | refine ux rfl rfl rfl rfl rfl rfl rfl ?_ | refine uX rfl rfl rfl rfl rfl rfl rfl ?_ | refine vG rfl rfl rfl rfl rfl rfl ?_ | refine u2 tab_ok rfl rfl rfl rfl rfl rfl (by first | exact trivial | omega) rfl ?_) | refine r_g rfl rfl rfl ?_)
    refine um uT vt rfl rfl trivial rfl rfl rfl rfl ?_
    repeat (first | refine uc ?_ | refine un ?_ | refine uQ ?_ | (refine uk ?_; first | refine ul tab_ok rfl rfl rfl rfl (by first | exact trivial | omega | exact nl rfl) rfl ?_ | refine ux rfl rfl rfl rfl rfl rfl rfl ?_) | refine vh (by simp) rfl rfl rfl ?_)
    exact Sub.refl _
  · rw [h4] at hr ⊢
    repeat (first | refine uf ?_ | refine ud ?_ | refine uQ ?_ | (refine uk ?_; first | refine ul tab_ok rfl rfl rfl rfl (by first | exact trivial | omega | exact nl rfl) rfl ?_ | refine uO tab_ok rfl rfl rfl rfl rfl rfl rfl (by decide) rfl rfl rfl ?_))
    refine um (uR _ (vr nt1_3.1)) vn rfl rfl ⟨Sub.refl _, trivial⟩ rfl rfl rfl rfl ?_
    refine um (ve nt1_3) vl rfl rfl ⟨Sub.refl _, trivial⟩ rfl rfl rfl rfl ?_
    repeat (first | refine uf ?_ | refine ud ?_ | refine ug ?_ | (refine uk ?_; first | refine ul tab_ok rfl rfl rfl rfl (by first | exact trivial | omega | exact nl rfl) rfl ?_))
    refine um hr u4 rfl rfl ⟨Sub.refl _, Sub.refl _, trivial⟩ rfl rfl rfl rfl ?_
    repeat (first | refine uf ?_ | refine uc ?_ | refine ud ?_ | refine uq ?_ | refine ug ?_ | (refine uk ?_; first | refine ul tab_ok rfl rfl rfl rfl (by first | exact trivial | omega | exact nl rfl) rfl ?_) | refine uF rfl ?_)
    refine um (vF ut1_3) wi rfl rfl ⟨Sub.refl _, trivial⟩ rfl rfl rfl rfl ?_
    repeat (first | refine uf ?_ | refine ud ?_ | refine vm vb (by kernel_rfl) ?_ | refine ug ?_ | (refine uk ?_; first | refine ul tab_ok rfl rfl rfl rfl (by first | exact trivial | omega | exact nl rfl) rfl ?_ | refine uO tab_ok rfl rfl rfl rfl rfl rfl rfl (by decide) rfl rfl rfl ?_ | refine vI tab_ok rfl rfl rfl rfl rfl ?_ | refine u3 tab_ok rfl rfl rfl rfl ?_ | refine ux rfl rfl rfl rfl rfl rfl rfl ?_ | refine uX rfl rfl rfl rfl rfl rfl rfl ?_ | refine vG rfl rfl rfl rfl rfl rfl ?_ | refine u2 tab_ok rfl rfl rfl rfl rfl rfl (by first | exact trivial | omega) rfl ?_) | refine r_g rfl rfl rfl ?_)
    refine um uT vt rfl rfl trivial rfl rfl rfl rfl ?_
    repeat (first | refine uc ?_ | refine un ?_ | refine uQ ?_ | (refine uk ?_; first | refine ul tab_ok rfl rfl rfl rfl (by first | exact trivial | omega | exact nl rfl) rfl ?_ | refine ux rfl rfl rfl rfl rfl rfl rfl ?_) | refine vh (by simp) rfl rfl rfl ?_)
    exact Sub.refl _
  · rw [h4] at hr ⊢
    repeat (first | refine uf ?_ | refine ud ?_ | refine uQ ?_ | (refine uk ?_; first | refine ul tab_ok rfl rfl rfl rfl (by first | exact trivial | omega | exact nl rfl) rfl ?_ | refine uO tab_ok rfl rfl rfl rfl rfl rfl rfl (by decide) rfl rfl rfl ?_))
    refine um (uR _ (vr nt2_3.1)) vn rfl rfl ⟨Sub.refl _, trivial⟩ rfl rfl rfl rfl ?_
    refine um (ve nt2_3) vl rfl rfl ⟨Sub.refl _, trivial⟩ rfl rfl rfl rfl ?_
    repeat (first | refine uf ?_ | refine ud ?_ | refine ug ?_ | (refine uk ?_; first | refine ul tab_ok rfl rfl rfl rfl (by first | exact trivial | omega | exact nl rfl) rfl ?_))
    refine um hr u4 rfl rfl ⟨Sub.refl _, Sub.refl _, trivial⟩ rfl rfl rfl rfl ?_
    repeat (first | refine uf ?_ | refine uc ?_ | refine ud ?_ | refine ug ?_ | (refine uk ?_; first | refine ul tab_ok rfl rfl rfl rfl (by first | exact trivial | omega | exact nl rfl) rfl ?_ | refine ux rfl rfl rfl rfl rfl rfl rfl ?_ | refine u2 tab_ok rfl rfl rfl rfl rfl rfl (by first | exact trivial | omega) rfl ?_) | refine uA rfl ?_ | refine r_g rfl rfl rfl ?_)
    refine um uT vt rfl rfl trivial rfl rfl rfl rfl ?_
    repeat (first | refine uc ?_ | refine un ?_ | refine ur ?_ | refine ug ?_ | (refine uk ?_; first | refine ul tab_ok rfl rfl rfl rfl (by first | exact trivial | omega | exact nl rfl) rfl ?_ | refine ux rfl rfl rfl rfl rfl rfl rfl ?_) | refine vh (by simp) rfl rfl rfl ?_)
    exact Sub.refl _
  · rw [h4] at hr ⊢
    repeat (first | refine uf ?_ | refine ud ?_ | refine uQ ?_ | (refine uk ?_; first | refine ul tab_ok rfl rfl rfl rfl (by first | exact trivial | omega | exact nl rfl) rfl ?_ | refine uO tab_ok rfl rfl rfl rfl rfl rfl rfl (by decide) rfl rfl rfl ?_))
    refine um (uR _ (vr nt3_3.1)) vn rfl rfl ⟨Sub.refl _, trivial⟩ rfl rfl rfl rfl ?_
    refine um (ve nt3_3) vl rfl rfl ⟨Sub.refl _, trivial⟩ rfl rfl rfl rfl ?_
    repeat (first | refine uf ?_ | refine ud ?_ | refine ug ?_ | (refine uk ?_; first | refine ul tab_ok rfl rfl rfl rfl (by first | exact trivial | omega | exact nl rfl) rfl ?_))
    refine um hr u4 rfl rfl ⟨Sub.refl _, Sub.refl _, trivial⟩ rfl rfl rfl rfl ?_
    repeat (first | refine uf ?_ | refine uc ?_ | refine ud ?_ | refine ug ?_ | (refine uk ?_; first | refine ul tab_ok rfl rfl rfl rfl (by first | exact trivial | omega | exact nl rfl) rfl ?_ | refine ux rfl rfl rfl rfl rfl rfl rfl ?_ | refine u2 tab_ok rfl rfl rfl rfl rfl rfl (by first | exact trivial | omega) rfl ?_) | refine uA rfl ?_ | refine r_g rfl rfl rfl ?_)
    refine um uT vt rfl rfl trivial rfl rfl rfl rfl ?_
    repeat (first | refine uc ?_ | refine un ?_ | refine ur ?_ | refine ug ?_ | (refine uk ?_; first | refine ul tab_ok rfl rfl rfl rfl (by first | exact trivial | omega | exact nl rfl) rfl ?_ | refine ux rfl rfl rfl rfl rfl rfl rfl ?_) | refine vh (by simp) rfl rfl rfl ?_)
    exact Sub.refl _
end Go.Proofs.YtllmagfmbglefaaDoor
