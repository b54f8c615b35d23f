/- strings.Builder on law9's seat; the symbols at places. -/
import Derived.Test.YtgkcliecgmhmfaaL4
import Derived.Test.YtgkcliecgmhmfaaG4
namespace Go.Proofs.Ytgkcliecgmhmfaa
open Go Go.RowKit

theorem under55 : Try.prog.underlying 55 = some (.pointer 57) := by kernel_rfl
theorem under80 : Try.prog.underlying 80 = some .unsafePointer := by kernel_rfl
theorem under78 : Try.prog.underlying 78 = some (.pointer 5) := by kernel_rfl
theorem cells5 : Try.prog.cellsOf 5 = 1 := by kernel_rfl
theorem info5 : (Try.prog.info? 5).map (fun i => (i.zero, i.size, i.bytes)) = some (some (.int .u8 0), 1, 1) := by kernel_rfl
theorem lies57 : liesAt Try.prog Try.prog.depth 57 (2 / Try.prog.cellsOf 57) 0 57 1 = true := by kernel_rfl

theorem check_nil (v : Nat) (l : List UInt8) : MCalls Try.prog 43 [.box 57 [.val (.pointer none), .row 1 v], .row v 5 1 (l.map bD)] [.ptr 0 0] [.box 57 [.ptr 0 0, .row 1 v], .row v 5 1 (l.map bD)] (.tup []) := by
  refine m_start Try.func43 Try.ntmps43 rfl rfl rfl fun S w β => ?_
  repeat (first
    | refine awp_seq ?_
    | refine a_region ?_
    | (refine r_id ?_; first
      | refine r_ev tab_ok rfl rfl rfl rfl (by first | exact trivial | exact ⟨by omega, by omega⟩ | omega | exact ⟨by omega, by omega, by omega, by omega⟩ | exact Nat.le_of_ble_eq_true rfl) rfl ?_
      | refine r_ld tab_ok rfl rfl rfl rfl rfl ?_
      | refine r_nilck rfl rfl rfl rfl rfl rfl rfl ?_))
  refine r_by (fun _ => astep_eqnil_nil under55 rfl rfl rfl) rfl rfl rfl rfl rfl ?_
  repeat (first
    | refine thenA_normal ?_
    | refine a_region ?_
    | refine r_done ?_
    | (refine r_id ?_; first
      | refine r_ev tab_ok rfl rfl rfl rfl (by first | exact trivial | exact ⟨by omega, by omega⟩ | omega | exact ⟨by omega, by omega, by omega, by omega⟩ | exact Nat.le_of_ble_eq_true rfl) rfl ?_)
    | refine awp_cond_t rfl ?_)
  refine r_by1 (astep_tounsafe tab_ok under55 under80 rfl rfl rfl rfl rfl) rfl rfl rfl rfl rfl ?_
  refine r_by (fun _ => astep_noescape Try.func46 rfl rfl rfl rfl rfl) rfl rfl rfl rfl rfl ?_
  refine r_by1 (astep_fromunsafe tab_ok under80 under55 rfl rfl rfl rfl lies57) rfl rfl rfl rfl rfl ?_
  repeat (first
    | refine r_done ?_
    | (refine r_id ?_; first
      | refine r_ev tab_ok rfl rfl rfl rfl (by first | exact trivial | exact ⟨by omega, by omega⟩ | omega | exact ⟨by omega, by omega, by omega, by omega⟩ | exact Nat.le_of_ble_eq_true rfl) rfl ?_
      | refine r_st tab_ok rfl rfl rfl rfl ?_
      | refine r_nilck rfl rfl rfl rfl rfl rfl rfl ?_)
    | exact retM0 (by first | exact .inl rfl | exact .inr rfl) rfl rfl rfl)
theorem check_ptr (v : Nat) (l : List UInt8) : MCalls Try.prog 43 [.box 57 [.ptr 0 0, .row 1 v], .row v 5 1 (l.map bD)] [.ptr 0 0] [.box 57 [.ptr 0 0, .row 1 v], .row v 5 1 (l.map bD)] (.tup []) := by
  refine m_start Try.func43 Try.ntmps43 rfl rfl rfl fun S w β => ?_
  repeat (first
    | refine awp_seq ?_
    | refine a_region ?_
    | (refine r_id ?_; first
      | refine r_ev tab_ok rfl rfl rfl rfl (by first | exact trivial | exact ⟨by omega, by omega⟩ | omega | exact ⟨by omega, by omega, by omega, by omega⟩ | exact Nat.le_of_ble_eq_true rfl) rfl ?_
      | refine r_ld tab_ok rfl rfl rfl rfl rfl ?_
      | refine r_nilck rfl rfl rfl rfl rfl rfl rfl ?_))
  refine r_by (fun _ => astep_eqnil_ptr under55 rfl rfl rfl) rfl rfl rfl rfl rfl ?_
  repeat (first
    | refine awp_seq ?_
    | refine thenA_normal ?_
    | refine a_region ?_
    | refine r_done ?_
    | (refine r_id ?_; first
      | refine r_ev tab_ok rfl rfl rfl rfl (by first | exact trivial | exact ⟨by omega, by omega⟩ | omega | exact ⟨by omega, by omega, by omega, by omega⟩ | exact Nat.le_of_ble_eq_true rfl) rfl ?_
      | refine r_ld tab_ok rfl rfl rfl rfl rfl ?_
      | refine r_nilck rfl rfl rfl rfl rfl rfl rfl ?_)
    | refine awp_cond_f rfl ?_)
  refine r_by (fun _ => astep_neqself tab_ok under55 rfl rfl rfl rfl) rfl rfl rfl rfl rfl ?_
  repeat (first
    | refine thenA_normal ?_
    | refine awp_skip ?_
    | refine r_done ?_
    | exact retM0 (by first | exact .inl rfl | exact .inr rfl) rfl rfl rfl
    | refine awp_cond_f rfl ?_)
theorem check_ok (v : Nat) (l : List UInt8) : MCalls Try.prog 43 [.box 57 [selfP, .row 1 v], .row v 5 1 (l.map bD)] [.ptr 0 0] [.box 57 [selfP, .row 1 v], .row v 5 1 (l.map bD)] (.tup []) := mcall_self (check_nil v l) (check_ptr v l)

theorem retM2 {P : Program} {fn : Func} {n : Nat} {x y r1 r2 : AV} {e : Exit} {M M1 : List AB} {F : List (Nat × AV)} {t u : Tmp} (he : e = .normal ∨ e = .ret) (hr : fn.results.toList = [.tmp t, .tmp u]) (hx : nf (look F t) = some x) (hy : nf (look F u) = some y) (hf : (x.under n && y.under n) = true) (hM : M.take n = M1) (hu : M1.all (AB.under n) = true) (h : Sub x r1) (k : Sub y r2) : retM P fn n M1 (.tup [r1, r2]) e ⟨M, F⟩ := by
  rw [Bool.and_eq_true] at hf
  refine ⟨he, hM, hu, [x, y], by rw [hr]; exact .cons (.tmp (by rw [nf_eq hx]; exact Sub.refl _) (by rw [nf_eq hx]; exact hf.1)) (.cons (.tmp (by rw [nf_eq hy]; exact Sub.refl _) (by rw [nf_eq hy]; exact hf.2)) .nil), ?_⟩
  rintro M β w imm v ⟨cs, h1, ⟨v1, r, e1, s1, v2, r', e2, s2, s3⟩⟩
  exact ⟨cs, h1, v1, r, e1, h _ _ _ _ _ s1, v2, r', e2, k _ _ _ _ _ s2, s3⟩
/-- (*strings.Builder).WriteString. -/
theorem write_ok (v : Nat) (l : List UInt8) (s : ByteArray) (hl : l.length + s.size ≤ 70368744177664) : MCalls Try.prog 31 [.box 57 [selfP, .row 1 v], .row v 5 1 (l.map bD)] [.ptr 0 0, .val (.string s)] [.box 57 [selfP, .row 1 (v + 2)], .row (v + 2) 5 1 ((l ++ s.data.toList).map bD)] (.tup [.val (.int .i64 s.size), .val .nilIface]) := by
  refine m_start Try.func31 Try.ntmps31 rfl rfl rfl fun S w β => ?_
  repeat (first
    | refine awp_seq ?_
    | refine a_region ?_
    | refine r_done ?_
    | (refine r_id ?_; first
      | refine r_ev tab_ok rfl rfl rfl rfl (by first | exact trivial | exact ⟨by omega, by omega⟩ | omega | exact ⟨by omega, by omega, by omega, by omega⟩ | exact Nat.le_of_ble_eq_true rfl) rfl ?_))
  refine r_mcall [0, 1] (check_ok v l) call43 rfl rfl ⟨rfl, rfl, trivial⟩ (by decide) ⟨Sub.refl _, trivial⟩ rfl rfl rfl rfl rfl rfl rfl ?_
  repeat (first
    | refine awp_seq ?_
    | refine a_region ?_
    | refine r_done ?_
    | (refine r_id ?_; first
      | refine r_ev tab_ok rfl rfl rfl rfl (by first | exact trivial | exact ⟨by omega, by omega⟩ | omega | exact ⟨by omega, by omega, by omega, by omega⟩ | exact Nat.le_of_ble_eq_true rfl) rfl ?_
      | refine r_ld tab_ok rfl rfl rfl rfl rfl ?_
      | refine r_nilck rfl rfl rfl rfl rfl rfl rfl ?_))
  refine r_append_str tab_ok rfl rfl rfl info5 rfl rfl rfl rfl rfl rfl (by omega) rfl ?_
  repeat (first
    | (refine r_id ?_; first
      | refine r_ev tab_ok rfl rfl rfl rfl (by first | exact trivial | exact ⟨by omega, by omega⟩ | omega | exact ⟨by omega, by omega, by omega, by omega⟩ | exact Nat.le_of_ble_eq_true rfl) rfl ?_
      | refine r_nilck rfl rfl rfl rfl rfl rfl rfl ?_))
  refine r_st_row tab_ok rfl rfl rfl rfl rfl rfl rfl rfl rfl rfl rfl rfl ?_
  repeat (first
    | refine awp_seq ?_
    | refine thenA_normal ?_
    | refine a_region ?_
    | refine awp_ret ?_
    | refine r_done ?_
    | (refine r_id ?_; first
      | refine r_ev tab_ok rfl rfl rfl rfl (by first | exact trivial | exact ⟨by omega, by omega⟩ | omega | exact ⟨by omega, by omega, by omega, by omega⟩ | exact Nat.le_of_ble_eq_true rfl) rfl ?_))
  exact retM2 (by first | exact .inl rfl | exact .inr rfl) rfl rfl rfl rfl rfl rfl (Sub.refl _) (Sub.refl _)

/-- (*strings.Builder).String. -/
theorem string_ok (v : Nat) (l : List UInt8) (hl : l.length ≤ 70368744177664) : MCalls Try.prog 33 [.box 57 [selfP, .row 1 v], .row v 5 1 (l.map bD)] [.ptr 0 0] [.box 57 [selfP, .any], .gone] (.val (.string ⟨l.toArray⟩)) := by
  rcases List.eq_nil_or_concat l with rfl | ⟨l', c, rfl⟩
  · refine m_startF Try.func33 Try.ntmps33 rfl rfl rfl fun S w β => ?_
    repeat (first
      | refine awp_seq ?_
      | refine a_region ?_
      | refine a_draw1 mixed_ok (by kernel_rfl) ?_
      | refine r_done ?_
      | (refine r_id ?_; first
        | refine r_ev tab_ok rfl rfl rfl rfl (by first | exact trivial | exact ⟨by omega, by omega⟩ | omega | exact ⟨by omega, by omega, by omega, by omega⟩ | exact Nat.le_of_ble_eq_true rfl) rfl ?_
        | refine r_ld tab_ok rfl rfl rfl rfl rfl ?_
        | refine r_nilck rfl rfl rfl rfl rfl rfl rfl ?_))
    refine r_usd0 under78 rfl rfl rfl rfl rfl rfl rfl ?_
    repeat (first
      | (refine r_id ?_; first
        | refine r_ev tab_ok rfl rfl rfl rfl (by first | exact trivial | exact ⟨by omega, by omega⟩ | omega | exact ⟨by omega, by omega, by omega, by omega⟩ | exact Nat.le_of_ble_eq_true rfl) rfl ?_
        | refine r_ld tab_ok rfl rfl rfl rfl rfl ?_
        | refine r_nilck rfl rfl rfl rfl rfl rfl rfl ?_))
    refine r_by1 (astep_len_row tab_ok rfl rfl rfl rfl) rfl rfl rfl rfl rfl ?_
    refine r_ustr0 rfl rfl rfl rfl rfl rfl rfl rfl ?_
    repeat (first
      | refine thenA_normal ?_
      | refine awp_ret ?_
      | refine r_done' ?_
      | (refine r_id ?_; first
        | refine r_ev tab_ok rfl rfl rfl rfl (by first | exact trivial | exact ⟨by omega, by omega⟩ | omega | exact ⟨by omega, by omega, by omega, by omega⟩ | exact Nat.le_of_ble_eq_true rfl) rfl ?_))
    exact retF1 [.box 57 [selfP, .any], .gone] [(2, .val (.string ⟨#[]⟩))] (fits_convM (by repeat' first | exact trivial | exact rfl | (rw [List.map_append]; first | done | rfl) | exact c_sub rfl (Sub.refl _) rfl | exact c_nil rfl rfl | exact c_thaw rfl rfl rfl | exact c_row rfl rfl rfl | exact c_row rfl rfl (by rw [List.map_append]; first | done | rfl) | exact c_ptr rfl rfl rfl rfl | exact Or.inl ⟨c_sub rfl (Sub.refl _) rfl, c_ptr rfl rfl rfl rfl⟩ | exact c_alt rfl rfl rfl rfl | exact c_ro rfl rfl | exact c_eo rfl rfl | exact c_sub rfl (Sub.altl _ _) rfl | refine ⟨_, _, rfl, ?_, ?_⟩ | apply And.intro) (by repeat' first | exact trivial | exact rfl | (rw [List.map_append]; first | done | rfl) | exact c_sub rfl (Sub.refl _) rfl | exact c_nil rfl rfl | exact c_thaw rfl rfl rfl | exact c_row rfl rfl rfl | exact c_row rfl rfl (by rw [List.map_append]; first | done | rfl) | exact c_ptr rfl rfl rfl rfl | exact Or.inl ⟨c_sub rfl (Sub.refl _) rfl, c_ptr rfl rfl rfl rfl⟩ | exact c_alt rfl rfl rfl rfl | exact c_ro rfl rfl | exact c_eo rfl rfl | exact c_sub rfl (Sub.altl _ _) rfl | refine ⟨_, _, rfl, ?_, ?_⟩ | apply And.intro) ⟨trivial, trivial, trivial⟩) (by first | exact .inl rfl | exact .inr rfl) rfl rfl rfl rfl rfl (Sub.refl _)
  · refine m_startF Try.func33 Try.ntmps33 rfl rfl rfl fun S w β => ?_
    repeat (first
      | refine awp_seq ?_
      | refine a_region ?_
      | refine r_done ?_
      | (refine r_id ?_; first
        | refine r_ev tab_ok rfl rfl rfl rfl (by first | exact trivial | exact ⟨by omega, by omega⟩ | omega | exact ⟨by omega, by omega, by omega, by omega⟩ | exact Nat.le_of_ble_eq_true rfl) rfl ?_))
    refine a_draw mixed_ok [0,0,0,1,1,0,0,0,1,1,2,0] (by kernel_rfl) ?_
    repeat (first
      | (refine r_id ?_; first
        | refine r_ev tab_ok rfl rfl rfl rfl (by first | exact trivial | exact ⟨by omega, by omega⟩ | omega | exact ⟨by omega, by omega, by omega, by omega⟩ | exact Nat.le_of_ble_eq_true rfl) rfl ?_
        | refine r_ld tab_ok rfl rfl rfl rfl rfl ?_
        | refine r_nilck rfl rfl rfl rfl rfl rfl rfl ?_))
    refine r_usd (by simp) rfl rfl rfl rfl rfl rfl rfl ?_
    repeat (first
      | (refine r_id ?_; first
        | refine r_ev tab_ok rfl rfl rfl rfl (by first | exact trivial | exact ⟨by omega, by omega⟩ | omega | exact ⟨by omega, by omega, by omega, by omega⟩ | exact Nat.le_of_ble_eq_true rfl) rfl ?_
        | refine r_ld tab_ok rfl rfl rfl rfl rfl ?_
        | refine r_nilck rfl rfl rfl rfl rfl rfl rfl ?_))
    refine r_by1 (astep_len_row tab_ok rfl rfl rfl rfl) rfl rfl rfl rfl rfl ?_
    refine r_ustr (by simp) under78 cells5 rfl rfl rfl rfl rfl rfl rfl rfl ?_
    repeat (first
      | refine thenA_normal ?_
      | refine awp_ret ?_
      | refine r_done' ?_
      | (refine r_id ?_; first
        | refine r_ev tab_ok rfl rfl rfl rfl (by first | exact trivial | exact ⟨by omega, by omega⟩ | omega | exact ⟨by omega, by omega, by omega, by omega⟩ | exact Nat.le_of_ble_eq_true rfl) rfl ?_))
    exact retF1 [.box 57 [selfP, .any], .gone] [(2, .val (.string ⟨(l'.concat c).toArray⟩))] (fits_convM (by repeat' first | exact trivial | exact rfl | (rw [List.map_append]; first | done | rfl) | exact c_sub rfl (Sub.refl _) rfl | exact c_nil rfl rfl | exact c_thaw rfl rfl rfl | exact c_row rfl rfl rfl | exact c_row rfl rfl (by rw [List.map_append]; first | done | rfl) | exact c_ptr rfl rfl rfl rfl | exact Or.inl ⟨c_sub rfl (Sub.refl _) rfl, c_ptr rfl rfl rfl rfl⟩ | exact c_alt rfl rfl rfl rfl | exact c_ro rfl rfl | exact c_eo rfl rfl | exact c_sub rfl (Sub.altl _ _) rfl | refine ⟨_, _, rfl, ?_, ?_⟩ | apply And.intro) (by repeat' first | exact trivial | exact rfl | (rw [List.map_append]; first | done | rfl) | exact c_sub rfl (Sub.refl _) rfl | exact c_nil rfl rfl | exact c_thaw rfl rfl rfl | exact c_row rfl rfl rfl | exact c_row rfl rfl (by rw [List.map_append]; first | done | rfl) | exact c_ptr rfl rfl rfl rfl | exact Or.inl ⟨c_sub rfl (Sub.refl _) rfl, c_ptr rfl rfl rfl rfl⟩ | exact c_alt rfl rfl rfl rfl | exact c_ro rfl rfl | exact c_eo rfl rfl | exact c_sub rfl (Sub.altl _ _) rfl | refine ⟨_, _, rfl, ?_, ?_⟩ | apply And.intro) ⟨trivial, trivial, trivial⟩) (by first | exact .inl rfl | exact .inr rfl) rfl rfl rfl rfl rfl (Sub.refl _)
/-- The same, of a row of odd number: the builder can be written on. -/
theorem stringk_ok (v : Nat) (hv : sealed v = true) (l : List UInt8) (hl : l.length ≤ 70368744177664) (hne : l ≠ []) : MCalls Try.prog 33 [.box 57 [selfP, .row 1 v], .row v 5 1 (l.map bD)] [.ptr 0 0] [.box 57 [selfP, .row 1 v], .row v 5 1 (l.map bD)] (.val (.string ⟨l.toArray⟩)) := by
  have hne' : l.map bD ≠ [] := by simpa using hne
  refine m_start Try.func33 Try.ntmps33 rfl rfl rfl fun S w β => ?_
  repeat (first
    | refine awp_seq ?_
    | refine a_region ?_
    | refine r_done ?_
    | (refine r_id ?_; first
      | refine r_ev tab_ok rfl rfl rfl rfl (by first | exact trivial | exact ⟨by omega, by omega⟩ | omega | exact ⟨by omega, by omega, by omega, by omega⟩ | exact Nat.le_of_ble_eq_true rfl) rfl ?_))
  refine a_draw mixed_ok [0,0,0,1,1,0,0,0,1,1,2,0] (by kernel_rfl) ?_
  repeat (first
    | (refine r_id ?_; first
      | refine r_ev tab_ok rfl rfl rfl rfl (by first | exact trivial | exact ⟨by omega, by omega⟩ | omega | exact ⟨by omega, by omega, by omega, by omega⟩ | exact Nat.le_of_ble_eq_true rfl) rfl ?_
      | refine r_ld tab_ok rfl rfl rfl rfl rfl ?_
      | refine r_nilck rfl rfl rfl rfl rfl rfl rfl ?_))
  refine r_usd hne' rfl rfl rfl rfl rfl rfl rfl ?_
  repeat (first
    | (refine r_id ?_; first
      | refine r_ev tab_ok rfl rfl rfl rfl (by first | exact trivial | exact ⟨by omega, by omega⟩ | omega | exact ⟨by omega, by omega, by omega, by omega⟩ | exact Nat.le_of_ble_eq_true rfl) rfl ?_
      | refine r_ld tab_ok rfl rfl rfl rfl rfl ?_
      | refine r_nilck rfl rfl rfl rfl rfl rfl rfl ?_))
  refine r_by1 (astep_len_row tab_ok rfl rfl rfl rfl) rfl rfl rfl rfl rfl ?_
  refine r_ustrk hne under78 cells5 rfl rfl rfl rfl rfl rfl rfl rfl hv ?_
  repeat (first
    | refine thenA_normal ?_
    | refine awp_ret ?_
    | refine r_done' ?_
    | (refine r_id ?_; first
      | refine r_ev tab_ok rfl rfl rfl rfl (by first | exact trivial | exact ⟨by omega, by omega⟩ | omega | exact ⟨by omega, by omega, by omega, by omega⟩ | exact Nat.le_of_ble_eq_true rfl) rfl ?_)
    | refine retM1 (by first | exact .inl rfl | exact .inr rfl) rfl rfl rfl rfl rfl ?_)
  exact Sub.refl _
/-- (*strings.Builder).Len. -/
theorem len_ok (v : Nat) (l : List UInt8) (hl : l.length ≤ 70368744177664) : MCalls Try.prog 32 [.box 57 [selfP, .row 1 v], .row v 5 1 (l.map bD)] [.ptr 0 0] [.box 57 [selfP, .row 1 v], .row v 5 1 (l.map bD)] (.val (.int .i64 l.length)) := by
  refine m_start Try.func32 Try.ntmps32 rfl rfl rfl fun S w β => ?_
  repeat (first
    | refine awp_seq ?_
    | refine a_region ?_
    | refine r_done ?_
    | (refine r_id ?_; first
      | refine r_ev tab_ok rfl rfl rfl rfl (by first | exact trivial | exact ⟨by omega, by omega⟩ | omega | exact ⟨by omega, by omega, by omega, by omega⟩ | exact Nat.le_of_ble_eq_true rfl) rfl ?_
      | refine r_ld tab_ok rfl rfl rfl rfl rfl ?_
      | refine r_nilck rfl rfl rfl rfl rfl rfl rfl ?_))
  refine r_by1 (astep_len_row tab_ok rfl rfl rfl rfl) rfl rfl rfl rfl rfl ?_
  repeat (first
    | refine thenA_normal ?_
    | refine awp_ret ?_
    | refine r_done ?_
    | (refine r_id ?_; first
      | refine r_ev tab_ok rfl rfl rfl rfl (by first | exact trivial | exact ⟨by omega, by omega⟩ | omega | exact ⟨by omega, by omega, by omega, by omega⟩ | exact Nat.le_of_ble_eq_true rfl) rfl ?_)
    | refine retM1 (by first | exact .inl rfl | exact .inr rfl) rfl rfl rfl rfl rfl ?_)
  exact Sub.of_eq (by rw [List.length_map])
end Go.Proofs.Ytgkcliecgmhmfaa
