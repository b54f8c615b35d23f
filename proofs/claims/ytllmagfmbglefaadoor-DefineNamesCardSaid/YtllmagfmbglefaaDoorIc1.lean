/- DefineNames walked, for words 4 to 7. -/
import Derived.Test.YtllmagfmbglefaaDoorIb
namespace Go.Proofs.YtllmagfmbglefaaDoor
open Go Go.RowKit
set_option maxRecDepth 20000

set_option maxHeartbeats 8000000 in
theorem dn4 (k how : Int) (hk : k % 12 = 4) : uV Tryd.prog 8 [.val (.int .i64 k), .val (.int .i64 how)] (.val (.bool true)) := by
  refine u1 Tryd.func8 Tryd.ntmps8 rfl rfl rfl fun S w => ?_
  repeat (first | refine uf ?_ | refine ud ?_ | refine ug ?_ | (refine uk ?_; first | refine ul tab_ok rfl rfl rfl rfl (by first | exact trivial | omega | exact nl rfl) rfl ?_ | refine vd tab_ok rfl rfl rfl rfl rfl rfl rfl rfl rfl ?_))
  refine um (vj k 12 (by decide) (by decide)) u4 rfl rfl ⟨Sub.refl _, Sub.refl _, trivial⟩ rfl rfl rfl rfl ?_
  rw [hk]
  repeat (first | refine uf ?_ | refine vm vb (by kernel_rfl) ?_ | refine ug ?_ | (refine uk ?_; first | refine ul tab_ok rfl rfl rfl rfl (by first | exact trivial | omega | exact nl rfl) rfl ?_ | refine uO tab_ok rfl rfl rfl rfl rfl rfl rfl (by decide) rfl rfl rfl ?_ | refine vd tab_ok rfl rfl rfl rfl rfl rfl rfl rfl rfl ?_))
  refine um (vj how 4 (by decide) (by decide)) u4 rfl rfl ⟨Sub.refl _, Sub.refl _, trivial⟩ rfl rfl rfl rfl ?_
  have h4 : how % 4 = 0 ∨ how % 4 = 1 ∨ how % 4 = 2 ∨ how % 4 = 3 := by omega
  have hr := vj how 4 (by decide) (by decide)
  rcases h4 with h4 | h4 | h4 | h4
  · rw [h4] at hr ⊢
    repeat (first | refine uf ?_ | refine ud ?_ | refine uQ ?_ | (refine uk ?_; first | refine ul tab_ok rfl rfl rfl rfl (by first | exact trivial | omega | exact nl rfl) rfl ?_ | refine uO tab_ok rfl rfl rfl rfl rfl rfl rfl (by decide) rfl rfl rfl ?_))
    refine um (uR _ (vr nt0_4.1)) vn rfl rfl ⟨Sub.refl _, trivial⟩ rfl rfl rfl rfl ?_
    refine um (ve nt0_4) vl rfl rfl ⟨Sub.refl _, trivial⟩ rfl rfl rfl rfl ?_
    repeat (first | refine uf ?_ | refine ud ?_ | refine ug ?_ | (refine uk ?_; first | refine ul tab_ok rfl rfl rfl rfl (by first | exact trivial | omega | exact nl rfl) rfl ?_))
    refine um hr u4 rfl rfl ⟨Sub.refl _, Sub.refl _, trivial⟩ rfl rfl rfl rfl ?_
    repeat (first | refine uf ?_ | refine uc ?_ | refine ud ?_ | refine uq ?_ | refine ug ?_ | (refine uk ?_; first | refine ul tab_ok rfl rfl rfl rfl (by first | exact trivial | omega | exact nl rfl) rfl ?_) | refine uF rfl ?_)
    refine um (vF ut0_4) wi rfl rfl ⟨Sub.refl _, trivial⟩ rfl rfl rfl rfl ?_
    repeat (first | refine uf ?_ | refine ud ?_ | refine vm vb (by kernel_rfl) ?_ | refine ug ?_ | (refine uk ?_; first | refine ul tab_ok rfl rfl rfl rfl (by first | exact trivial | omega | exact nl rfl) rfl ?_ | refine uO tab_ok rfl rfl rfl rfl rfl rfl rfl (by decide) rfl rfl rfl ?_ | refine vI tab_ok rfl rfl rfl rfl rfl ?_ | refine u3 tab_ok rfl rfl rfl rfl ?_ | refine ux rfl rfl rfl rfl rfl rfl rfl ?_ | refine uX rfl rfl rfl rfl rfl rfl rfl ?_ | refine vG rfl rfl rfl rfl rfl rfl ?_ | refine u2 tab_ok rfl rfl rfl rfl rfl rfl (by first | exact trivial | omega) rfl ?_) | refine r_g rfl rfl rfl ?_)
    refine um uT vt rfl rfl trivial rfl rfl rfl rfl ?_
    repeat (first | refine uc ?_ | refine un ?_ | refine uQ ?_ | (refine uk ?_; first | refine ul tab_ok rfl rfl rfl rfl (by first | exact trivial | omega | exact nl rfl) rfl ?_ | refine ux rfl rfl rfl rfl rfl rfl rfl ?_) | refine vh (by simp) rfl rfl rfl ?_)
    exact Sub.refl _
  · rw [h4] at hr ⊢
    repeat (first | refine uf ?_ | refine ud ?_ | refine uQ ?_ | (refine uk ?_; first | refine ul tab_ok rfl rfl rfl rfl (by first | exact trivial | omega | exact nl rfl) rfl ?_ | refine uO tab_ok rfl rfl rfl rfl rfl rfl rfl (by decide) rfl rfl rfl ?_))
    refine um (uR _ (vr nt1_4.1)) vn rfl rfl ⟨Sub.refl _, trivial⟩ rfl rfl rfl rfl ?_
    refine um (ve nt1_4) vl rfl rfl ⟨Sub.refl _, trivial⟩ rfl rfl rfl rfl ?_
    repeat (first | refine uf ?_ | refine ud ?_ | refine ug ?_ | (refine uk ?_; first | refine ul tab_ok rfl rfl rfl rfl (by first | exact trivial | omega | exact nl rfl) rfl ?_))
    refine um hr u4 rfl rfl ⟨Sub.refl _, Sub.refl _, trivial⟩ rfl rfl rfl rfl ?_
    repeat (first | refine uf ?_ | refine uc ?_ | refine ud ?_ | refine uq ?_ | refine ug ?_ | (refine uk ?_; first | refine ul tab_ok rfl rfl rfl rfl (by first | exact trivial | omega | exact nl rfl) rfl ?_) | refine uF rfl ?_)
    refine um (vF ut1_4) wi rfl rfl ⟨Sub.refl _, trivial⟩ rfl rfl rfl rfl ?_
    repeat (first | refine uf ?_ | refine ud ?_ | refine vm vb (by kernel_rfl) ?_ | refine ug ?_ | (refine uk ?_; first | refine ul tab_ok rfl rfl rfl rfl (by first | exact trivial | omega | exact nl rfl) rfl ?_ | refine uO tab_ok rfl rfl rfl rfl rfl rfl rfl (by decide) rfl rfl rfl ?_ | refine vI tab_ok rfl rfl rfl rfl rfl ?_ | refine u3 tab_ok rfl rfl rfl rfl ?_ | refine ux rfl rfl rfl rfl rfl rfl rfl ?_ | refine uX rfl rfl rfl rfl rfl rfl rfl ?_ | refine vG rfl rfl rfl rfl rfl rfl ?_ | refine u2 tab_ok rfl rfl rfl rfl rfl rfl (by first | exact trivial | omega) rfl ?_) | refine r_g rfl rfl rfl ?_)
    refine um uT vt rfl rfl trivial rfl rfl rfl rfl ?_
    repeat (first | refine uc ?_ | refine un ?_ | refine uQ ?_ | (refine uk ?_; first | refine ul tab_ok rfl rfl rfl rfl (by first | exact trivial | omega | exact nl rfl) rfl ?_ | refine ux rfl rfl rfl rfl rfl rfl rfl ?_) | refine vh (by simp) rfl rfl rfl ?_)
    exact Sub.refl _
  · rw [h4] at hr ⊢
    repeat (first | refine uf ?_ | refine ud ?_ | refine uQ ?_ | (refine uk ?_; first | refine ul tab_ok rfl rfl rfl rfl (by first | exact trivial | omega | exact nl rfl) rfl ?_ | refine uO tab_ok rfl rfl rfl rfl rfl rfl rfl (by decide) rfl rfl rfl ?_))
    refine um (uR _ (vr nt2_4.1)) vn rfl rfl ⟨Sub.refl _, trivial⟩ rfl rfl rfl rfl ?_
    refine um (ve nt2_4) vl rfl rfl ⟨Sub.refl _, trivial⟩ rfl rfl rfl rfl ?_
    repeat (first | refine uf ?_ | refine ud ?_ | refine ug ?_ | (refine uk ?_; first | refine ul tab_ok rfl rfl rfl rfl (by first | exact trivial | omega | exact nl rfl) rfl ?_))
    refine um hr u4 rfl rfl ⟨Sub.refl _, Sub.refl _, trivial⟩ rfl rfl rfl rfl ?_
    repeat (first | refine uf ?_ | refine uc ?_ | refine ud ?_ | refine ug ?_ | (refine uk ?_; first | refine ul tab_ok rfl rfl rfl rfl (by first | exact trivial | omega | exact nl rfl) rfl ?_ | refine ux rfl rfl rfl rfl rfl rfl rfl ?_ | refine u2 tab_ok rfl rfl rfl rfl rfl rfl (by first | exact trivial | omega) rfl ?_) | refine uA rfl ?_ | refine r_g rfl rfl rfl ?_)
    refine um uT vt rfl rfl trivial rfl rfl rfl rfl ?_
    repeat (first | refine uc ?_ | refine un ?_ | refine ur ?_ | refine ug ?_ | (refine uk ?_; first | refine ul tab_ok rfl rfl rfl rfl (by first | exact trivial | omega | exact nl rfl) rfl ?_ | refine ux rfl rfl rfl rfl rfl rfl rfl ?_) | refine vh (by simp) rfl rfl rfl ?_)
    exact Sub.refl _
  · rw [h4] at hr ⊢
    repeat (first | refine uf ?_ | refine ud ?_ | refine uQ ?_ | (refine uk ?_; first | refine ul tab_ok rfl rfl rfl rfl (by first | exact trivial | omega | exact nl rfl) rfl ?_ | refine uO tab_ok rfl rfl rfl rfl rfl rfl rfl (by decide) rfl rfl rfl ?_))
    refine um (uR _ (vr nt3_4.1)) vn rfl rfl ⟨Sub.refl _, trivial⟩ rfl rfl rfl rfl ?_
    refine um (ve nt3_4) vl rfl rfl ⟨Sub.refl _, trivial⟩ rfl rfl rfl rfl ?_
    repeat (first | refine uf ?_ | refine ud ?_ | refine ug ?_ | (refine uk ?_; first | refine ul tab_ok rfl rfl rfl rfl (by first | exact trivial | omega | exact nl rfl) rfl ?_))
    refine um hr u4 rfl rfl ⟨Sub.refl _, Sub.refl _, trivial⟩ rfl rfl rfl rfl ?_
    repeat (first | refine uf ?_ | refine uc ?_ | refine ud ?_ | refine ug ?_ | (refine uk ?_; first | refine ul tab_ok rfl rfl rfl rfl (by first | exact trivial | omega | exact nl rfl) rfl ?_ | refine ux rfl rfl rfl rfl rfl rfl rfl ?_ | refine u2 tab_ok rfl rfl rfl rfl rfl rfl (by first | exact trivial | omega) rfl ?_) | refine uA rfl ?_ | refine r_g rfl rfl rfl ?_)
    refine um uT vt rfl rfl trivial rfl rfl rfl rfl ?_
    repeat (first | refine uc ?_ | refine un ?_ | refine ur ?_ | refine ug ?_ | (refine uk ?_; first | refine ul tab_ok rfl rfl rfl rfl (by first | exact trivial | omega | exact nl rfl) rfl ?_ | refine ux rfl rfl rfl rfl rfl rfl rfl ?_) | refine vh (by simp) rfl rfl rfl ?_)
    exact Sub.refl _
set_option maxHeartbeats 8000000 in
theorem dn5 (k how : Int) (hk : k % 12 = 5) : uV Tryd.prog 8 [.val (.int .i64 k), .val (.int .i64 how)] (.val (.bool true)) := by
  refine u1 Tryd.func8 Tryd.ntmps8 rfl rfl rfl fun S w => ?_
  repeat (first | refine uf ?_ | refine ud ?_ | refine ug ?_ | (refine uk ?_; first | refine ul tab_ok rfl rfl rfl rfl (by first | exact trivial | omega | exact nl rfl) rfl ?_ | refine vd tab_ok rfl rfl rfl rfl rfl rfl rfl rfl rfl ?_))
  refine um (vj k 12 (by decide) (by decide)) u4 rfl rfl ⟨Sub.refl _, Sub.refl _, trivial⟩ rfl rfl rfl rfl ?_
  rw [hk]
  repeat (first | refine uf ?_ | refine vm vb (by kernel_rfl) ?_ | refine ug ?_ | (refine uk ?_; first | refine ul tab_ok rfl rfl rfl rfl (by first | exact trivial | omega | exact nl rfl) rfl ?_ | refine uO tab_ok rfl rfl rfl rfl rfl rfl rfl (by decide) rfl rfl rfl ?_ | refine vd tab_ok rfl rfl rfl rfl rfl rfl rfl rfl rfl ?_))
  refine um (vj how 4 (by decide) (by decide)) u4 rfl rfl ⟨Sub.refl _, Sub.refl _, trivial⟩ rfl rfl rfl rfl ?_
  have h4 : how % 4 = 0 ∨ how % 4 = 1 ∨ how % 4 = 2 ∨ how % 4 = 3 := by omega
  have hr := vj how 4 (by decide) (by decide)
  rcases h4 with h4 | h4 | h4 | h4
  · rw [h4] at hr ⊢
    repeat (first | refine uf ?_ | refine ud ?_ | refine uQ ?_ | (refine uk ?_; first | refine ul tab_ok rfl rfl rfl rfl (by first | exact trivial | omega | exact nl rfl) rfl ?_ | refine uO tab_ok rfl rfl rfl rfl rfl rfl rfl (by decide) rfl rfl rfl ?_))
    refine um (uR _ (vr nt0_5.1)) vn rfl rfl ⟨Sub.refl _, trivial⟩ rfl rfl rfl rfl ?_
    refine um (ve nt0_5) vl rfl rfl ⟨Sub.refl _, trivial⟩ rfl rfl rfl rfl ?_
    repeat (first | refine uf ?_ | refine ud ?_ | refine ug ?_ | (refine uk ?_; first | refine ul tab_ok rfl rfl rfl rfl (by first | exact trivial | omega | exact nl rfl) rfl ?_))
    refine um hr u4 rfl rfl ⟨Sub.refl _, Sub.refl _, trivial⟩ rfl rfl rfl rfl ?_
    repeat (first | refine uf ?_ | refine uc ?_ | refine ud ?_ | refine uq ?_ | refine ug ?_ | (refine uk ?_; first | refine ul tab_ok rfl rfl rfl rfl (by first | exact trivial | omega | exact nl rfl) rfl ?_) | refine uF rfl ?_)
    refine um (vF ut0_5) wi rfl rfl ⟨Sub.refl _, trivial⟩ rfl rfl rfl rfl ?_
    repeat (first | refine uf ?_ | refine ud ?_ | refine vm vb (by kernel_rfl) ?_ | refine ug ?_ | (refine uk ?_; first | refine ul tab_ok rfl rfl rfl rfl (by first | exact trivial | omega | exact nl rfl) rfl ?_ | refine uO tab_ok rfl rfl rfl rfl rfl rfl rfl (by decide) rfl rfl rfl ?_ | refine vI tab_ok rfl rfl rfl rfl rfl ?_ | refine u3 tab_ok rfl rfl rfl rfl ?_ | refine ux rfl rfl rfl rfl rfl rfl rfl ?_ | refine uX rfl rfl rfl rfl rfl rfl rfl ?_ | refine vG rfl rfl rfl rfl rfl rfl ?_ | refine u2 tab_ok rfl rfl rfl rfl rfl rfl (by first | exact trivial | omega) rfl ?_) | refine r_g rfl rfl rfl ?_)
    refine um uT vt rfl rfl trivial rfl rfl rfl rfl ?_
    repeat (first | refine uc ?_ | refine un ?_ | refine uQ ?_ | (refine uk ?_; first | refine ul tab_ok rfl rfl rfl rfl (by first | exact trivial | omega | exact nl rfl) rfl ?_ | refine ux rfl rfl rfl rfl rfl rfl rfl ?_) | refine vh (by simp) rfl rfl rfl ?_)
    exact Sub.refl _
  · rw [h4] at hr ⊢
    repeat (first | refine uf ?_ | refine ud ?_ | refine uQ ?_ | (refine uk ?_; first | refine ul tab_ok rfl rfl rfl rfl (by first | exact trivial | omega | exact nl rfl) rfl ?_ | refine uO tab_ok rfl rfl rfl rfl rfl rfl rfl (by decide) rfl rfl rfl ?_))
    refine um (uR _ (vr nt1_5.1)) vn rfl rfl ⟨Sub.refl _, trivial⟩ rfl rfl rfl rfl ?_
    refine um (ve nt1_5) vl rfl rfl ⟨Sub.refl _, trivial⟩ rfl rfl rfl rfl ?_
    repeat (first | refine uf ?_ | refine ud ?_ | refine ug ?_ | (refine uk ?_; first | refine ul tab_ok rfl rfl rfl rfl (by first | exact trivial | omega | exact nl rfl) rfl ?_))
    refine um hr u4 rfl rfl ⟨Sub.refl _, Sub.refl _, trivial⟩ rfl rfl rfl rfl ?_
    repeat (first | refine uf ?_ | refine uc ?_ | refine ud ?_ | refine uq ?_ | refine ug ?_ | (refine uk ?_; first | refine ul tab_ok rfl rfl rfl rfl (by first | exact trivial | omega | exact nl rfl) rfl ?_) | refine uF rfl ?_)
    refine um (vF ut1_5) wi rfl rfl ⟨Sub.refl _, trivial⟩ rfl rfl rfl rfl ?_
    repeat (first | refine uf ?_ | refine ud ?_ | refine vm vb (by kernel_rfl) ?_ | refine ug ?_ | (refine uk ?_; first | refine ul tab_ok rfl rfl rfl rfl (by first | exact trivial | omega | exact nl rfl) rfl ?_ | refine uO tab_ok rfl rfl rfl rfl rfl rfl rfl (by decide) rfl rfl rfl ?_ | refine vI tab_ok rfl rfl rfl rfl rfl ?_ | refine u3 tab_ok rfl rfl rfl rfl ?_ | refine ux rfl rfl rfl rfl rfl rfl rfl ?_ | refine uX rfl rfl rfl rfl rfl rfl rfl ?_ | refine vG rfl rfl rfl rfl rfl rfl ?_ | refine u2 tab_ok rfl rfl rfl rfl rfl rfl (by first | exact trivial | omega) rfl ?_) | refine r_g rfl rfl rfl ?_)
    refine um uT vt rfl rfl trivial rfl rfl rfl rfl ?_
    repeat (first | refine uc ?_ | refine un ?_ | refine uQ ?_ | (refine uk ?_; first | refine ul tab_ok rfl rfl rfl rfl (by first | exact trivial | omega | exact nl rfl) rfl ?_ | refine ux rfl rfl rfl rfl rfl rfl rfl ?_) | refine vh (by simp) rfl rfl rfl ?_)
    exact Sub.refl _
  · rw [h4] at hr ⊢
    repeat (first | refine uf ?_ | refine ud ?_ | refine uQ ?_ | (refine uk ?_; first | refine ul tab_ok rfl rfl rfl rfl (by first | exact trivial | omega | exact nl rfl) rfl ?_ | refine uO tab_ok rfl rfl rfl rfl rfl rfl rfl (by decide) rfl rfl rfl ?_))
    refine um (uR _ (vr nt2_5.1)) vn rfl rfl ⟨Sub.refl _, trivial⟩ rfl rfl rfl rfl ?_
    refine um (ve nt2_5) vl rfl rfl ⟨Sub.refl _, trivial⟩ rfl rfl rfl rfl ?_
    repeat (first | refine uf ?_ | refine ud ?_ | refine ug ?_ | (refine uk ?_; first | refine ul tab_ok rfl rfl rfl rfl (by first | exact trivial | omega | exact nl rfl) rfl ?_))
    refine um hr u4 rfl rfl ⟨Sub.refl _, Sub.refl _, trivial⟩ rfl rfl rfl rfl ?_
    repeat (first | refine uf ?_ | refine uc ?_ | refine ud ?_ | refine ug ?_ | (refine uk ?_; first | refine ul tab_ok rfl rfl rfl rfl (by first | exact trivial | omega | exact nl rfl) rfl ?_ | refine ux rfl rfl rfl rfl rfl rfl rfl ?_ | refine u2 tab_ok rfl rfl rfl rfl rfl rfl (by first | exact trivial | omega) rfl ?_) | refine uA rfl ?_ | refine r_g rfl rfl rfl ?_)
    refine um uT vt rfl rfl trivial rfl rfl rfl rfl ?_
    repeat (first | refine uc ?_ | refine un ?_ | refine ur ?_ | refine ug ?_ | (refine uk ?_; first | refine ul tab_ok rfl rfl rfl rfl (by first | exact trivial | omega | exact nl rfl) rfl ?_ | refine ux rfl rfl rfl rfl rfl rfl rfl ?_) | refine vh (by simp) rfl rfl rfl ?_)
    exact Sub.refl _
  · rw [h4] at hr ⊢
    repeat (first | refine uf ?_ | refine ud ?_ | refine uQ ?_ | (refine uk ?_; first | refine ul tab_ok rfl rfl rfl rfl (by first | exact trivial | omega | exact nl rfl) rfl ?_ | refine uO tab_ok rfl rfl rfl rfl rfl rfl rfl (by decide) rfl rfl rfl ?_))
    refine um (uR _ (vr nt3_5.1)) vn rfl rfl ⟨Sub.refl _, trivial⟩ rfl rfl rfl rfl ?_
    refine um (ve nt3_5) vl rfl rfl ⟨Sub.refl _, trivial⟩ rfl rfl rfl rfl ?_
    repeat (first | refine uf ?_ | refine ud ?_ | refine ug ?_ | (refine uk ?_; first | refine ul tab_ok rfl rfl rfl rfl (by first | exact trivial | omega | exact nl rfl) rfl ?_))
    refine um hr u4 rfl rfl ⟨Sub.refl _, Sub.refl _, trivial⟩ rfl rfl rfl rfl ?_
    repeat (first | refine uf ?_ | refine uc ?_ | refine ud ?_ | refine ug ?_ | (refine uk ?_; first | refine ul tab_ok rfl rfl rfl rfl (by first | exact trivial | omega | exact nl rfl) rfl ?_ | refine ux rfl rfl rfl rfl rfl rfl rfl ?_ | refine u2 tab_ok rfl rfl rfl rfl rfl rfl (by first | exact trivial | omega) rfl ?_) | refine uA rfl ?_ | refine r_g rfl rfl rfl ?_)
    refine um uT vt rfl rfl trivial rfl rfl rfl rfl ?_
    repeat (first | refine uc ?_ | refine un ?_ | refine ur ?_ | refine ug ?_ | (refine uk ?_; first | refine ul tab_ok rfl rfl rfl rfl (by first | exact trivial | omega | exact nl rfl) rfl ?_ | refine ux rfl rfl rfl rfl rfl rfl rfl ?_) | refine vh (by simp) rfl rfl rfl ?_)
    exact Sub.refl _
set_option maxHeartbeats 8000000 in
theorem dn6 (k how : Int) (hk : k % 12 = 6) : uV Tryd.prog 8 [.val (.int .i64 k), .val (.int .i64 how)] (.val (.bool true)) := by
  refine u1 Tryd.func8 Tryd.ntmps8 rfl rfl rfl fun S w => ?_
  repeat (first | refine uf ?_ | refine ud ?_ | refine ug ?_ | (refine uk ?_; first | refine ul tab_ok rfl rfl rfl rfl (by first | exact trivial | omega | exact nl rfl) rfl ?_ | refine vd tab_ok rfl rfl rfl rfl rfl rfl rfl rfl rfl ?_))
  refine um (vj k 12 (by decide) (by decide)) u4 rfl rfl ⟨Sub.refl _, Sub.refl _, trivial⟩ rfl rfl rfl rfl ?_
  rw [hk]
  repeat (first | refine uf ?_ | refine vm vb (by kernel_rfl) ?_ | refine ug ?_ | (refine uk ?_; first | refine ul tab_ok rfl rfl rfl rfl (by first | exact trivial | omega | exact nl rfl) rfl ?_ | refine uO tab_ok rfl rfl rfl rfl rfl rfl rfl (by decide) rfl rfl rfl ?_ | refine vd tab_ok rfl rfl rfl rfl rfl rfl rfl rfl rfl ?_))
  refine um (vj how 4 (by decide) (by decide)) u4 rfl rfl ⟨Sub.refl _, Sub.refl _, trivial⟩ rfl rfl rfl rfl ?_
  have h4 : how % 4 = 0 ∨ how % 4 = 1 ∨ how % 4 = 2 ∨ how % 4 = 3 := by omega
  have hr := vj how 4 (by decide) (by decide)
  rcases h4 with h4 | h4 | h4 | h4
  · rw [h4] at hr ⊢
    repeat (first | refine uf ?_ | refine ud ?_ | refine uQ ?_ | (refine uk ?_; first | refine ul tab_ok rfl rfl rfl rfl (by first | exact trivial | omega | exact nl rfl) rfl ?_ | refine uO tab_ok rfl rfl rfl rfl rfl rfl rfl (by decide) rfl rfl rfl ?_))
    refine um (uR _ (vr nt0_6.1)) vn rfl rfl ⟨Sub.refl _, trivial⟩ rfl rfl rfl rfl ?_
    refine um (ve nt0_6) vl rfl rfl ⟨Sub.refl _, trivial⟩ rfl rfl rfl rfl ?_
    repeat (first | refine uf ?_ | refine ud ?_ | refine ug ?_ | (refine uk ?_; first | refine ul tab_ok rfl rfl rfl rfl (by first | exact trivial | omega | exact nl rfl) rfl ?_))
    refine um hr u4 rfl rfl ⟨Sub.refl _, Sub.refl _, trivial⟩ rfl rfl rfl rfl ?_
    repeat (first | refine uf ?_ | refine uc ?_ | refine ud ?_ | refine uq ?_ | refine ug ?_ | (refine uk ?_; first | refine ul tab_ok rfl rfl rfl rfl (by first | exact trivial | omega | exact nl rfl) rfl ?_) | refine uF rfl ?_)
    refine um (vF ut0_6) wi rfl rfl ⟨Sub.refl _, trivial⟩ rfl rfl rfl rfl ?_
    repeat (first | refine uf ?_ | refine ud ?_ | refine vm vb (by kernel_rfl) ?_ | refine ug ?_ | (refine uk ?_; first | refine ul tab_ok rfl rfl rfl rfl (by first | exact trivial | omega | exact nl rfl) rfl ?_ | refine uO tab_ok rfl rfl rfl rfl rfl rfl rfl (by decide) rfl rfl rfl ?_ | refine vI tab_ok rfl rfl rfl rfl rfl ?_ | refine u3 tab_ok rfl rfl rfl rfl ?_ | refine ux rfl rfl rfl rfl rfl rfl rfl ?_ | refine uX rfl rfl rfl rfl rfl rfl rfl ?_ | refine vG rfl rfl rfl rfl rfl rfl ?_ | refine u2 tab_ok rfl rfl rfl rfl rfl rfl (by first | exact trivial | omega) rfl ?_) | refine r_g rfl rfl rfl ?_)
    refine um uT vt rfl rfl trivial rfl rfl rfl rfl ?_
    repeat (first | refine uc ?_ | refine un ?_ | refine uQ ?_ | (refine uk ?_; first | refine ul tab_ok rfl rfl rfl rfl (by first | exact trivial | omega | exact nl rfl) rfl ?_ | refine ux rfl rfl rfl rfl rfl rfl rfl ?_) | refine vh (by simp) rfl rfl rfl ?_)
    exact Sub.refl _
  · rw [h4] at hr ⊢
    repeat (first | refine uf ?_ | refine ud ?_ | refine uQ ?_ | (refine uk ?_; first | refine ul tab_ok rfl rfl rfl rfl (by first | exact trivial | omega | exact nl rfl) rfl ?_ | refine uO tab_ok rfl rfl rfl rfl rfl rfl rfl (by decide) rfl rfl rfl ?_))
    refine um (uR _ (vr nt1_6.1)) vn rfl rfl ⟨Sub.refl _, trivial⟩ rfl rfl rfl rfl ?_
    refine um (ve nt1_6) vl rfl rfl ⟨Sub.refl _, trivial⟩ rfl rfl rfl rfl ?_
    repeat (first | refine uf ?_ | refine ud ?_ | refine ug ?_ | (refine uk ?_; first | refine ul tab_ok rfl rfl rfl rfl (by first | exact trivial | omega | exact nl rfl) rfl ?_))
    refine um hr u4 rfl rfl ⟨Sub.refl _, Sub.refl _, trivial⟩ rfl rfl rfl rfl ?_
    repeat (first | refine uf ?_ | refine uc ?_ | refine ud ?_ | refine uq ?_ | refine ug ?_ | (refine uk ?_; first | refine ul tab_ok rfl rfl rfl rfl (by first | exact trivial | omega | exact nl rfl) rfl ?_) | refine uF rfl ?_)
    refine um (vF ut1_6) wi rfl rfl ⟨Sub.refl _, trivial⟩ rfl rfl rfl rfl ?_
    repeat (first | refine uf ?_ | refine ud ?_ | refine vm vb (by kernel_rfl) ?_ | refine ug ?_ | (refine uk ?_; first | refine ul tab_ok rfl rfl rfl rfl (by first | exact trivial | omega | exact nl rfl) rfl ?_ | refine uO tab_ok rfl rfl rfl rfl rfl rfl rfl (by decide) rfl rfl rfl ?_ | refine vI tab_ok rfl rfl rfl rfl rfl ?_ | refine u3 tab_ok rfl rfl rfl rfl ?_ | refine ux rfl rfl rfl rfl rfl rfl rfl ?_ | refine uX rfl rfl rfl rfl rfl rfl rfl ?_ | refine vG rfl rfl rfl rfl rfl rfl ?_ | refine u2 tab_ok rfl rfl rfl rfl rfl rfl (by first | exact trivial | omega) rfl ?_) | refine r_g rfl rfl rfl ?_)
    refine um uT vt rfl rfl trivial rfl rfl rfl rfl ?_
    repeat (first | refine uc ?_ | refine un ?_ | refine uQ ?_ | (refine uk ?_; first | refine ul tab_ok rfl rfl rfl rfl (by first | exact trivial | omega | exact nl rfl) rfl ?_ | refine ux rfl rfl rfl rfl rfl rfl rfl ?_) | refine vh (by simp) rfl rfl rfl ?_)
    exact Sub.refl _
  · rw [h4] at hr ⊢
    repeat (first | refine uf ?_ | refine ud ?_ | refine uQ ?_ | (refine uk ?_; first | refine ul tab_ok rfl rfl rfl rfl (by first | exact trivial | omega | exact nl rfl) rfl ?_ | refine uO tab_ok rfl rfl rfl rfl rfl rfl rfl (by decide) rfl rfl rfl ?_))
    refine um (uR _ (vr nt2_6.1)) vn rfl rfl ⟨Sub.refl _, trivial⟩ rfl rfl rfl rfl ?_
    refine um (ve nt2_6) vl rfl rfl ⟨Sub.refl _, trivial⟩ rfl rfl rfl rfl ?_
    repeat (first | refine uf ?_ | refine ud ?_ | refine ug ?_ | (refine uk ?_; first | refine ul tab_ok rfl rfl rfl rfl (by first | exact trivial | omega | exact nl rfl) rfl ?_))
    refine um hr u4 rfl rfl ⟨Sub.refl _, Sub.refl _, trivial⟩ rfl rfl rfl rfl ?_
    repeat (first | refine uf ?_ | refine uc ?_ | refine ud ?_ | refine ug ?_ | (refine uk ?_; first | refine ul tab_ok rfl rfl rfl rfl (by first | exact trivial | omega | exact nl rfl) rfl ?_ | refine ux rfl rfl rfl rfl rfl rfl rfl ?_ | refine u2 tab_ok rfl rfl rfl rfl rfl rfl (by first | exact trivial | omega) rfl ?_) | refine uA rfl ?_ | refine r_g rfl rfl rfl ?_)
    refine um uT vt rfl rfl trivial rfl rfl rfl rfl ?_
    repeat (first | refine uc ?_ | refine un ?_ | refine ur ?_ | refine ug ?_ | (refine uk ?_; first | refine ul tab_ok rfl rfl rfl rfl (by first | exact trivial | omega | exact nl rfl) rfl ?_ | refine ux rfl rfl rfl rfl rfl rfl rfl ?_) | refine vh (by simp) rfl rfl rfl ?_)
    exact Sub.refl _
  · rw [h4] at hr ⊢
    repeat (first | refine uf ?_ | refine ud ?_ | refine uQ ?_ | (refine uk ?_; first | refine ul tab_ok rfl rfl rfl rfl (by first | exact trivial | omega | exact nl rfl) rfl ?_ | refine uO tab_ok rfl rfl rfl rfl rfl rfl rfl (by decide) rfl rfl rfl ?_))
    refine um (uR _ (vr nt3_6.1)) vn rfl rfl ⟨Sub.refl _, trivial⟩ rfl rfl rfl rfl ?_
    refine um (ve nt3_6) vl rfl rfl ⟨Sub.refl _, trivial⟩ rfl rfl rfl rfl ?_
    repeat (first | refine uf ?_ | refine ud ?_ | refine ug ?_ | (refine uk ?_; first | refine ul tab_ok rfl rfl rfl rfl (by first | exact trivial | omega | exact nl rfl) rfl ?_))
    refine um hr u4 rfl rfl ⟨Sub.refl _, Sub.refl _, trivial⟩ rfl rfl rfl rfl ?_
    repeat (first | refine uf ?_ | refine uc ?_ | refine ud ?_ | refine ug ?_ | (refine uk ?_; first | refine ul tab_ok rfl rfl rfl rfl (by first | exact trivial | omega | exact nl rfl) rfl ?_ | refine ux rfl rfl rfl rfl rfl rfl rfl ?_ | refine u2 tab_ok rfl rfl rfl rfl rfl rfl (by first | exact trivial | omega) rfl ?_) | refine uA rfl ?_ | refine r_g rfl rfl rfl ?_)
    refine um uT vt rfl rfl trivial rfl rfl rfl rfl ?_
    repeat (first | refine uc ?_ | refine un ?_ | refine ur ?_ | refine ug ?_ | (refine uk ?_; first | refine ul tab_ok rfl rfl rfl rfl (by first | exact trivial | omega | exact nl rfl) rfl ?_ | refine ux rfl rfl rfl rfl rfl rfl rfl ?_) | refine vh (by simp) rfl rfl rfl ?_)
    exact Sub.refl _
set_option maxHeartbeats 8000000 in
theorem dn7 (k how : Int) (hk : k % 12 = 7) : uV Tryd.prog 8 [.val (.int .i64 k), .val (.int .i64 how)] (.val (.bool true)) := by
  refine u1 Tryd.func8 Tryd.ntmps8 rfl rfl rfl fun S w => ?_
  repeat (first | refine uf ?_ | refine ud ?_ | refine ug ?_ | (refine uk ?_; first | refine ul tab_ok rfl rfl rfl rfl (by first | exact trivial | omega | exact nl rfl) rfl ?_ | refine vd tab_ok rfl rfl rfl rfl rfl rfl rfl rfl rfl ?_))
  refine um (vj k 12 (by decide) (by decide)) u4 rfl rfl ⟨Sub.refl _, Sub.refl _, trivial⟩ rfl rfl rfl rfl ?_
  rw [hk]
  repeat (first | refine uf ?_ | refine vm vb (by kernel_rfl) ?_ | refine ug ?_ | (refine uk ?_; first | refine ul tab_ok rfl rfl rfl rfl (by first | exact trivial | omega | exact nl rfl) rfl ?_ | refine uO tab_ok rfl rfl rfl rfl rfl rfl rfl (by decide) rfl rfl rfl ?_ | refine vd tab_ok rfl rfl rfl rfl rfl rfl rfl rfl rfl ?_))
  refine um (vj how 4 (by decide) (by decide)) u4 rfl rfl ⟨Sub.refl _, Sub.refl _, trivial⟩ rfl rfl rfl rfl ?_
  have h4 : how % 4 = 0 ∨ how % 4 = 1 ∨ how % 4 = 2 ∨ how % 4 = 3 := by omega
  have hr := vj how 4 (by decide) (by decide)
  rcases h4 with h4 | h4 | h4 | h4
  · rw [h4] at hr ⊢
    repeat (first | refine uf ?_ | refine ud ?_ | refine uQ ?_ | (refine uk ?_; first | refine ul tab_ok rfl rfl rfl rfl (by first | exact trivial | omega | exact nl rfl) rfl ?_ | refine uO tab_ok rfl rfl rfl rfl rfl rfl rfl (by decide) rfl rfl rfl ?_))
    refine um (uR _ (vr nt0_7.1)) vn rfl rfl ⟨Sub.refl _, trivial⟩ rfl rfl rfl rfl ?_
    refine um (ve nt0_7) vl rfl rfl ⟨Sub.refl _, trivial⟩ rfl rfl rfl rfl ?_
    repeat (first | refine uf ?_ | refine ud ?_ | refine ug ?_ | (refine uk ?_; first | refine ul tab_ok rfl rfl rfl rfl (by first | exact trivial | omega | exact nl rfl) rfl ?_))
    refine um hr u4 rfl rfl ⟨Sub.refl _, Sub.refl _, trivial⟩ rfl rfl rfl rfl ?_
    repeat (first | refine uf ?_ | refine uc ?_ | refine ud ?_ | refine uq ?_ | refine ug ?_ | (refine uk ?_; first | refine ul tab_ok rfl rfl rfl rfl (by first | exact trivial | omega | exact nl rfl) rfl ?_) | refine uF rfl ?_)
    refine um (vF ut0_7) wi rfl rfl ⟨Sub.refl _, trivial⟩ rfl rfl rfl rfl ?_
    repeat (first | refine uf ?_ | refine ud ?_ | refine vm vb (by kernel_rfl) ?_ | refine ug ?_ | (refine uk ?_; first | refine ul tab_ok rfl rfl rfl rfl (by first | exact trivial | omega | exact nl rfl) rfl ?_ | refine uO tab_ok rfl rfl rfl rfl rfl rfl rfl (by decide) rfl rfl rfl ?_ | refine vI tab_ok rfl rfl rfl rfl rfl ?_ | refine u3 tab_ok rfl rfl rfl rfl ?_ | refine ux rfl rfl rfl rfl rfl rfl rfl ?_ | refine uX rfl rfl rfl rfl rfl rfl rfl ?_ | refine vG rfl rfl rfl rfl rfl rfl ?_ | refine u2 tab_ok rfl rfl rfl rfl rfl rfl (by first | exact trivial | omega) rfl ?_) | refine r_g rfl rfl rfl ?_)
    refine um uT vt rfl rfl trivial rfl rfl rfl rfl ?_
    repeat (first | refine uc ?_ | refine un ?_ | refine uQ ?_ | (refine uk ?_; first | refine ul tab_ok rfl rfl rfl rfl (by first | exact trivial | omega | exact nl rfl) rfl ?_ | refine ux rfl rfl rfl rfl rfl rfl rfl ?_) | refine vh (by simp) rfl rfl rfl ?_)
    exact Sub.refl _
  · rw [h4] at hr ⊢
    repeat (first | refine uf ?_ | refine ud ?_ | refine uQ ?_ | (refine uk ?_; first | refine ul tab_ok rfl rfl rfl rfl (by first | exact trivial | omega | exact nl rfl) rfl ?_ | refine uO tab_ok rfl rfl rfl rfl rfl rfl rfl (by decide) rfl rfl rfl ?_))
    refine um (uR _ (vr nt1_7.1)) vn rfl rfl ⟨Sub.refl _, trivial⟩ rfl rfl rfl rfl ?_
    refine um (ve nt1_7) vl rfl rfl ⟨Sub.refl _, trivial⟩ rfl rfl rfl rfl ?_
    repeat (first | refine uf ?_ | refine ud ?_ | refine ug ?_ | (refine uk ?_; first | refine ul tab_ok rfl rfl rfl rfl (by first | exact trivial | omega | exact nl rfl) rfl ?_))
    refine um hr u4 rfl rfl ⟨Sub.refl _, Sub.refl _, trivial⟩ rfl rfl rfl rfl ?_
    repeat (first | refine uf ?_ | refine uc ?_ | refine ud ?_ | refine uq ?_ | refine ug ?_ | (refine uk ?_; first | refine ul tab_ok rfl rfl rfl rfl (by first | exact trivial | omega | exact nl rfl) rfl ?_) | refine uF rfl ?_)
    refine um (vF ut1_7) wi rfl rfl ⟨Sub.refl _, trivial⟩ rfl rfl rfl rfl ?_
    repeat (first | refine uf ?_ | refine ud ?_ | refine vm vb (by kernel_rfl) ?_ | refine ug ?_ | (refine uk ?_; first | refine ul tab_ok rfl rfl rfl rfl (by first | exact trivial | omega | exact nl rfl) rfl ?_ | refine uO tab_ok rfl rfl rfl rfl rfl rfl rfl (by decide) rfl rfl rfl ?_ | refine vI tab_ok rfl rfl rfl rfl rfl ?_ | refine u3 tab_ok rfl rfl rfl rfl ?_ | refine ux rfl rfl rfl rfl rfl rfl rfl ?_ | refine uX rfl rfl rfl rfl rfl rfl rfl ?_ | refine vG rfl rfl rfl rfl rfl rfl ?_ | refine u2 tab_ok rfl rfl rfl rfl rfl rfl (by first | exact trivial | omega) rfl ?_) | refine r_g rfl rfl rfl ?_)
    refine um uT vt rfl rfl trivial rfl rfl rfl rfl ?_
    repeat (first | refine uc ?_ | refine un ?_ | refine uQ ?_ | (refine uk ?_; first | refine ul tab_ok rfl rfl rfl rfl (by first | exact trivial | omega | exact nl rfl) rfl ?_ | refine ux rfl rfl rfl rfl rfl rfl rfl ?_) | refine vh (by simp) rfl rfl rfl ?_)
    exact Sub.refl _
  · rw [h4] at hr ⊢
    repeat (first | refine uf ?_ | refine ud ?_ | refine uQ ?_ | (refine uk ?_; first | refine ul tab_ok rfl rfl rfl rfl (by first | exact trivial | omega | exact nl rfl) rfl ?_ | refine uO tab_ok rfl rfl rfl rfl rfl rfl rfl (by decide) rfl rfl rfl ?_))
    refine um (uR _ (vr nt2_7.1)) vn rfl rfl ⟨Sub.refl _, trivial⟩ rfl rfl rfl rfl ?_
    refine um (ve nt2_7) vl rfl rfl ⟨Sub.refl _, trivial⟩ rfl rfl rfl rfl ?_
    repeat (first | refine uf ?_ | refine ud ?_ | refine ug ?_ | (refine uk ?_; first | refine ul tab_ok rfl rfl rfl rfl (by first | exact trivial | omega | exact nl rfl) rfl ?_))
    refine um hr u4 rfl rfl ⟨Sub.refl _, Sub.refl _, trivial⟩ rfl rfl rfl rfl ?_
    repeat (first | refine uf ?_ | refine uc ?_ | refine ud ?_ | refine ug ?_ | (refine uk ?_; first | refine ul tab_ok rfl rfl rfl rfl (by first | exact trivial | omega | exact nl rfl) rfl ?_ | refine ux rfl rfl rfl rfl rfl rfl rfl ?_ | refine u2 tab_ok rfl rfl rfl rfl rfl rfl (by first | exact trivial | omega) rfl ?_) | refine uA rfl ?_ | refine r_g rfl rfl rfl ?_)
    refine um uT vt rfl rfl trivial rfl rfl rfl rfl ?_
    repeat (first | refine uc ?_ | refine un ?_ | refine ur ?_ | refine ug ?_ | (refine uk ?_; first | refine ul tab_ok rfl rfl rfl rfl (by first | exact trivial | omega | exact nl rfl) rfl ?_ | refine ux rfl rfl rfl rfl rfl rfl rfl ?_) | refine vh (by simp) rfl rfl rfl ?_)
    exact Sub.refl _
  · rw [h4] at hr ⊢
    repeat (first | refine uf ?_ | refine ud ?_ | refine uQ ?_ | (refine uk ?_; first | refine ul tab_ok rfl rfl rfl rfl (by first | exact trivial | omega | exact nl rfl) rfl ?_ | refine uO tab_ok rfl rfl rfl rfl rfl rfl rfl (by decide) rfl rfl rfl ?_))
    refine um (uR _ (vr nt3_7.1)) vn rfl rfl ⟨Sub.refl _, trivial⟩ rfl rfl rfl rfl ?_
    refine um (ve nt3_7) vl rfl rfl ⟨Sub.refl _, trivial⟩ rfl rfl rfl rfl ?_
    repeat (first | refine uf ?_ | refine ud ?_ | refine ug ?_ | (refine uk ?_; first | refine ul tab_ok rfl rfl rfl rfl (by first | exact trivial | omega | exact nl rfl) rfl ?_))
    refine um hr u4 rfl rfl ⟨Sub.refl _, Sub.refl _, trivial⟩ rfl rfl rfl rfl ?_
    repeat (first | refine uf ?_ | refine uc ?_ | refine ud ?_ | refine ug ?_ | (refine uk ?_; first | refine ul tab_ok rfl rfl rfl rfl (by first | exact trivial | omega | exact nl rfl) rfl ?_ | refine ux rfl rfl rfl rfl rfl rfl rfl ?_ | refine u2 tab_ok rfl rfl rfl rfl rfl rfl (by first | exact trivial | omega) rfl ?_) | refine uA rfl ?_ | refine r_g rfl rfl rfl ?_)
    refine um uT vt rfl rfl trivial rfl rfl rfl rfl ?_
    repeat (first | refine uc ?_ | refine un ?_ | refine ur ?_ | refine ug ?_ | (refine uk ?_; first | refine ul tab_ok rfl rfl rfl rfl (by first | exact trivial | omega | exact nl rfl) rfl ?_ | refine ux rfl rfl rfl rfl rfl rfl rfl ?_) | refine vh (by simp) rfl rfl rfl ?_)
    exact Sub.refl _
end Go.Proofs.YtllmagfmbglefaaDoor
