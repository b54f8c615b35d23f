/- The reference's tree: words; tables' rows that are alike. -/
import Derived.Test.YtklodolkgdmhoaaWt
import Derived.Laws.StructEq
namespace Go.Proofs.Ytklodolkgdmhoaa
open Go Go.RowKit

set_option maxHeartbeats 1000000
theorem rwhite_ok (r : Int) : PCalls Try.prog 56 [.val (.int .i32 r)] (.val (.bool (whI r))) := by
  refine p_start Try.func56 Try.ntmps56 rfl rfl rfl fun S w => ?_
  repeat (first
    | refine awp_seq ?_
    | refine thenA_normal ?_
    | refine a_region ?_
    | refine awp_ret ?_
    | refine r_done ?_
    | (refine r_id ?_; first
      | refine r_ev tab_ok rfl rfl rfl rfl (by first | exact trivial | exact ⟨by omega, by omega⟩ | omega | exact ⟨by omega, by omega, by omega, by omega⟩ | exact Nat.le_of_ble_eq_true rfl) rfl ?_
      | refine r_ev_cnd tab_ok rfl rfl rfl rfl rfl rfl (by first | exact fun _ => rfl | exact cs1 | exact cs2 | exact cs3) (by first | exact fun _ => trivial | (intro h; simp at h; first | exact ⟨by omega, by omega⟩ | omega)) rfl ?_
      | refine r_or rfl rfl rfl rfl rfl rfl rfl rfl ?_)
    | refine ret1 (by first | exact .inl rfl | exact .inr rfl) rfl rfl rfl ?_)
  exact Sub.of_eq (by rw [whI, Bool.or_assoc])
def spAny (s w : ByteArray) (L : List (Nat × Nat)) : Bool := (L.map fun p => s.extract p.1 p.2).any fun x => decide (w = x)
theorem spAny_cons (s w : ByteArray) (p : Nat × Nat) (L : List (Nat × Nat)) : spAny s w (p :: L) = (decide (w = s.extract p.1 p.2) || spAny s w L) := rfl
def stF (st : Option Nat) (i : Nat) : Nat := st.getD i
theorem word_ok (s w : ByteArray) (hs : s.size ≤ 1099511627776) : PCalls Try.prog 41 [.val (.string s), .val (.string w)] (.val (.bool ((wordsF s).any fun x => decide (w = x)))) := by
  refine p_start Try.func41 Try.ntmps41 rfl rfl rfl fun S w0 => ?_
  have hsz := str_size s
  have hall : ((wordsF s).any fun x => decide (w = x)) = spAny s w (sp none 0 s.data.toList) := rfl
  rw [hall]
  repeat (first
    | refine awp_seq ?_
    | refine thenA_normal ?_
    | refine awp_block ?_
    | refine a_region ?_
    | refine r_done ?_
    | (refine r_id ?_; first
      | refine r_ev tab_ok rfl rfl rfl rfl (by first | exact trivial | exact ⟨by omega, by omega⟩ | omega | exact ⟨by omega, by omega, by omega, by omega⟩ | exact Nat.le_of_ble_eq_true rfl) rfl ?_))
  refine a_loop (σ := {x : Nat × Option Nat // x.1 ≤ s.size + 1 ∧ (∀ a, x.2 = some a → a < x.1 ∧ x.1 ≤ s.size) ∧ spAny s w (sp x.2 x.1 (s.data.toList.drop x.1)) = spAny s w (sp none 0 s.data.toList)}) (fun _ => []) (fun x => [(0, .val (.string s)), (1, .val (.string w)), (5, .val (.int .i64 (x.1.2.getD x.1.1 : Nat))), (6, .val (.int .i64 x.1.1))]) (fun x => s.size + 1 - x.1.1) ⟨(0, none), Nat.zero_le _, fun _ h => (nomatch h), rfl⟩ (fits_of rfl (by repeat' first | exact trivial | exact Sub.refl _ | exact rfl | apply And.intro)) ?_
  rintro ⟨⟨i, st⟩, hi, hst, heq⟩
  dsimp only at hi hst heq ⊢
  have hfrom : st.getD i ≤ i := by
    cases st with
    | none => exact Nat.le_refl _
    | some a => exact Nat.le_of_lt (hst a rfl).1
  repeat (first
    | refine awp_seq ?_
    | refine thenA_normal ?_
    | refine a_region ?_
    | refine r_done ?_
    | (refine r_id ?_; first
      | refine r_ev tab_ok rfl rfl rfl rfl (by first | exact trivial | exact ⟨by omega, by omega⟩ | omega | exact ⟨by omega, by omega, by omega, by omega⟩ | exact Nat.le_of_ble_eq_true rfl) rfl ?_))
  refine awp_cond_p rfl (fun hle => ?_) (fun hgt => ?_)
  rotate_left
  · rw [List.drop_of_length_le (by omega)] at heq
    cases st with
    | none =>
      rw [← heq]
      repeat (first
        | refine awp_seq ?_
        | refine thenA_normal ?_
        | refine a_region ?_
        | refine awp_ret ?_
        | refine awp_exit ?_
        | refine r_done ?_
        | (refine r_id ?_; first
          | refine r_ev tab_ok rfl rfl rfl rfl (by first | exact trivial | exact ⟨by omega, by omega⟩ | omega | exact ⟨by omega, by omega, by omega, by omega⟩ | exact Nat.le_of_ble_eq_true rfl) rfl ?_)
        | refine ret1 (by first | exact .inl rfl | exact .inr rfl) rfl rfl rfl ?_)
      exact Sub.refl _
    | some a =>
      have := hst a rfl
      omega
  rcases Nat.lt_or_ge i s.size with hlt | hge
  · have hd := drop_at hlt
    rw [hd] at heq
    have hW := rwhite_ok ((byteAt s i).toNat : Int)
    have hbt : (s.data.toList.getD ((i : Int)).toNat 0).toNat < 256 := UInt8.toNat_lt _
    repeat (first
      | refine awp_seq ?_
      | refine awp_block ?_
      | refine a_region ?_
      | refine awp_skip ?_
      | (refine r_id ?_; first
        | refine r_ev tab_ok rfl rfl rfl rfl (by first | exact trivial | exact ⟨by omega, by omega⟩ | omega | exact ⟨by omega, by omega, by omega, by omega⟩ | exact Nat.le_of_ble_eq_true rfl) rfl ?_
        | refine r_ev_cnd tab_ok rfl rfl rfl rfl rfl rfl (by first | exact fun _ => rfl | exact cs1 | exact cs2 | exact cs3) (by first | exact fun _ => trivial | (intro h; simp at h; first | exact ⟨by omega, by omega⟩ | omega)) rfl ?_))
    refine r_call_cnd (fun _ => hW) call56 rfl rfl rfl rfl (by first | exact fun _ => rfl | exact cs1 | exact cs2 | exact cs3) ⟨Sub.refl _, trivial⟩ rfl rfl rfl rfl ?_
    have hne : decide ((i : Int) = s.size) = false := decide_eq_false (by omega)
    have hwb : whI ((byteAt s i).toNat : Int) = whB (byteAt s i) := by
      rw [whI, whB]
      congr 1
      · congr 1
        · exact decide_eq_decide.2 (by omega)
        · exact decide_eq_decide.2 (by omega)
      · exact decide_eq_decide.2 (by omega)
    rw [hwb]
    repeat (first
      | refine thenA_normal ?_
      | refine r_done ?_
      | (refine r_id ?_; first
        | refine r_or rfl rfl rfl rfl rfl rfl rfl rfl ?_))
    refine awp_cond rfl (fun hc => ?_) (fun hc => ?_)
    · rw [hne, Bool.false_or] at hc
      cases st with
      | none =>
        rw [sp, if_pos hc] at heq
        simp only [Option.getD_none] at hfrom ⊢
        repeat (first
          | refine awp_seq ?_
          | refine thenA_normal ?_
          | refine a_region ?_
          | refine awp_skip ?_
          | refine r_done ?_
          | (refine r_id ?_; first
            | refine r_ev tab_ok rfl rfl rfl rfl (by first | exact trivial | exact ⟨by omega, by omega⟩ | omega | exact ⟨by omega, by omega, by omega, by omega⟩ | exact Nat.le_of_ble_eq_true rfl) rfl ?_)
          | refine awp_cond_f rfl ?_
          | refine r_pick_f rfl rfl (congrArg (fun b => AV.val (.bool b)) (decide_eq_false (by omega))) rfl rfl rfl rfl ?_
          | refine r_off rfl rfl (congrArg (fun b => AV.val (.bool b)) (decide_eq_false (by omega))) rfl rfl rfl ?_)
        exact ⟨⟨(i + 1, none), by omega, fun _ h => (nomatch h), heq⟩, by dsimp only; omega, fits_of rfl (by repeat' first | exact trivial | exact Sub.refl _ | exact rfl | apply And.intro)⟩
      | some a =>
        have ha := hst a rfl
        rw [sp, if_pos hc, spAny_cons] at heq
        simp only [Option.getD_some] at hfrom ⊢
        repeat (first
          | refine awp_seq ?_
          | refine thenA_normal ?_
          | refine a_region ?_
          | refine r_done ?_
          | (refine r_id ?_; first
            | refine r_ev tab_ok rfl rfl rfl rfl (by first | exact trivial | exact ⟨by omega, by omega⟩ | omega | exact ⟨by omega, by omega, by omega, by omega⟩ | exact Nat.le_of_ble_eq_true rfl) rfl ?_
            | refine r_ev_cnd tab_ok rfl rfl rfl rfl rfl rfl (by first | exact fun _ => rfl | exact cs1 | exact cs2 | exact cs3) (by first | exact fun _ => trivial | (intro h; simp at h; first | exact ⟨by omega, by omega⟩ | omega)) rfl ?_
            | refine r_and rfl rfl rfl rfl rfl rfl rfl rfl ?_
            | refine r_scut_cnd tab_ok rfl rfl rfl rfl rfl rfl rfl rfl (by first | exact fun _ => rfl | exact cs1 | exact cs2 | exact cs3) rfl rfl (by intro h; simp at h ⊢; omega) rfl ?_))
        have e : s.extract ((some (a : Int)).getD 0).toNat ((some (i : Int)).getD s.size).toNat = s.extract a i := rfl
        refine awp_cond rfl (fun hc2 => ?_) (fun hc2 => ?_)
        · simp only [Bool.and_eq_true, decide_eq_true_eq] at hc2
          have h2 : w = s.extract a i := hc2.2.symm
          rw [← heq, decide_eq_true (show w = s.extract (a, i).1 (a, i).2 from h2), Bool.true_or]
          repeat (first
            | refine awp_seq ?_
            | refine thenA_normal ?_
            | refine a_region ?_
            | refine awp_ret ?_
            | refine thenA_ret ?_
            | refine blockA_ret ?_
            | refine r_done ?_
            | (refine r_id ?_; first
              | refine r_ev tab_ok rfl rfl rfl rfl (by first | exact trivial | exact ⟨by omega, by omega⟩ | omega | exact ⟨by omega, by omega, by omega, by omega⟩ | exact Nat.le_of_ble_eq_true rfl) rfl ?_)
            | refine ret1 (by first | exact .inl rfl | exact .inr rfl) rfl rfl rfl ?_)
          exact Sub.refl _
        · simp only [Bool.and_eq_false_iff, decide_eq_false_iff_not] at hc2
          have h2 : ¬ w = s.extract a i := fun h => by
            rcases hc2 with h3 | h3
            · omega
            · exact h3 h.symm
          rw [decide_eq_false (show ¬ w = s.extract (a, i).1 (a, i).2 from h2), Bool.false_or] at heq
          repeat (first
            | refine thenA_normal ?_
            | refine a_region ?_
            | refine awp_skip ?_
            | refine r_done ?_
            | (refine r_id ?_; first
              | refine r_ev tab_ok rfl rfl rfl rfl (by first | exact trivial | exact ⟨by omega, by omega⟩ | omega | exact ⟨by omega, by omega, by omega, by omega⟩ | exact Nat.le_of_ble_eq_true rfl) rfl ?_))
          exact ⟨⟨(i + 1, none), by omega, fun _ h => (nomatch h), heq⟩, by dsimp only; omega, fits_of rfl (by repeat' first | exact trivial | exact Sub.refl _ | exact rfl | apply And.intro)⟩
    · rw [hne, Bool.false_or] at hc
      cases st with
      | none =>
        rw [sp, if_neg (by rw [hc]; exact Bool.false_ne_true)] at heq
        simp only [Option.getD_none] at hfrom ⊢
        repeat (first
          | refine thenA_normal ?_
          | refine a_region ?_
          | refine awp_skip ?_
          | refine r_done ?_
          | (refine r_id ?_; first
            | refine r_ev tab_ok rfl rfl rfl rfl (by first | exact trivial | exact ⟨by omega, by omega⟩ | omega | exact ⟨by omega, by omega, by omega, by omega⟩ | exact Nat.le_of_ble_eq_true rfl) rfl ?_))
        exact ⟨⟨(i + 1, some i), by omega, fun _ h => by cases h; omega, heq⟩, by dsimp only; omega, fits_of rfl (by repeat' first | exact trivial | exact Sub.refl _ | exact rfl | apply And.intro)⟩
      | some a =>
        have ha := hst a rfl
        rw [sp, if_neg (by rw [hc]; exact Bool.false_ne_true)] at heq
        simp only [Option.getD_some] at hfrom ⊢
        repeat (first
          | refine thenA_normal ?_
          | refine a_region ?_
          | refine awp_skip ?_
          | refine r_done ?_
          | (refine r_id ?_; first
            | refine r_ev tab_ok rfl rfl rfl rfl (by first | exact trivial | exact ⟨by omega, by omega⟩ | omega | exact ⟨by omega, by omega, by omega, by omega⟩ | exact Nat.le_of_ble_eq_true rfl) rfl ?_))
        exact ⟨⟨(i + 1, some a), by omega, fun _ h => by cases h; omega, heq⟩, by dsimp only; omega, fits_of rfl (by repeat' first | exact trivial | exact Sub.refl _ | exact rfl | apply And.intro)⟩
  · have : i = s.size := by omega
    subst this
    rw [List.drop_of_length_le (by omega)] at heq
    repeat (first
      | refine awp_seq ?_
      | refine thenA_normal ?_
      | refine awp_block ?_
      | refine a_region ?_
      | refine awp_skip ?_
      | refine r_done ?_
      | (refine r_id ?_; first
        | refine r_ev tab_ok rfl rfl rfl rfl (by first | exact trivial | exact ⟨by omega, by omega⟩ | omega | exact ⟨by omega, by omega, by omega, by omega⟩ | exact Nat.le_of_ble_eq_true rfl) rfl ?_)
      | refine awp_cond_t rfl ?_
      | refine r_pick_t rfl rfl (congrArg (fun b => AV.val (.bool b)) (decide_eq_true (by omega))) rfl rfl rfl rfl ?_
      | refine r_off rfl rfl (congrArg (fun b => AV.val (.bool b)) (decide_eq_true (by omega))) rfl rfl rfl ?_)
    cases st with
    | none =>
      rw [sp] at heq
      simp only [Option.getD_none] at hfrom ⊢
      repeat (first
        | refine thenA_normal ?_
        | refine a_region ?_
        | refine awp_skip ?_
        | refine r_done ?_
        | (refine r_id ?_; first
          | refine r_ev tab_ok rfl rfl rfl rfl (by first | exact trivial | exact ⟨by omega, by omega⟩ | omega | exact ⟨by omega, by omega, by omega, by omega⟩ | exact Nat.le_of_ble_eq_true rfl) rfl ?_)
        | refine awp_cond_f rfl ?_
        | refine r_pick_f rfl rfl (congrArg (fun b => AV.val (.bool b)) (decide_eq_false (by omega))) rfl rfl rfl rfl ?_
        | refine r_off rfl rfl (congrArg (fun b => AV.val (.bool b)) (decide_eq_false (by omega))) rfl rfl rfl ?_)
      exact ⟨⟨(s.size + 1, none), by omega, fun _ h => (nomatch h), by rw [← heq, List.drop_of_length_le (by omega), sp]⟩, by dsimp only; omega, fits_of rfl (by repeat' first | exact trivial | exact Sub.refl _ | exact rfl | apply And.intro)⟩
    | some a =>
      have ha := hst a rfl
      rw [sp, spAny_cons] at heq
      simp only [Option.getD_some] at hfrom ⊢
      repeat (first
        | refine thenA_normal ?_
        | refine r_done ?_
        | (refine r_id ?_; first
          | refine r_ev tab_ok rfl rfl rfl rfl (by first | exact trivial | exact ⟨by omega, by omega⟩ | omega | exact ⟨by omega, by omega, by omega, by omega⟩ | exact Nat.le_of_ble_eq_true rfl) rfl ?_
          | refine r_scut tab_ok rfl rfl rfl rfl rfl rfl rfl rfl (by first | (simp; done) | exact ⟨by simp, by simp; omega, by simp; omega⟩ | (simp; omega)) rfl ?_)
        | refine r_g rfl rfl (congrArg (fun b => AV.val (.bool b)) (decide_eq_true (by omega))) ?_
        | refine r_pick_t rfl rfl (congrArg (fun b => AV.val (.bool b)) (decide_eq_true (by omega))) rfl rfl rfl rfl ?_)
      have e : s.extract ((some (a : Int)).getD 0).toNat ((some (s.size : Int)).getD s.size).toNat = s.extract a s.size := rfl
      refine awp_cond_p rfl (fun hc2 => ?_) (fun hc2 => ?_)
      · have h2 : w = s.extract a s.size := hc2.symm
        rw [← heq, decide_eq_true (show w = s.extract (a, s.size).1 (a, s.size).2 from h2), Bool.true_or]
        repeat (first
          | refine awp_seq ?_
          | refine thenA_normal ?_
          | refine a_region ?_
          | refine awp_ret ?_
          | refine thenA_ret ?_
          | refine blockA_ret ?_
          | refine r_done ?_
          | (refine r_id ?_; first
            | refine r_ev tab_ok rfl rfl rfl rfl (by first | exact trivial | exact ⟨by omega, by omega⟩ | omega | exact ⟨by omega, by omega, by omega, by omega⟩ | exact Nat.le_of_ble_eq_true rfl) rfl ?_)
          | refine ret1 (by first | exact .inl rfl | exact .inr rfl) rfl rfl rfl ?_)
        exact Sub.refl _
      · have h2 : ¬ w = s.extract a s.size := fun h => hc2 h.symm
        rw [decide_eq_false (show ¬ w = s.extract (a, s.size).1 (a, s.size).2 from h2), Bool.false_or] at heq
        repeat (first
          | refine thenA_normal ?_
          | refine a_region ?_
          | refine awp_skip ?_
          | refine r_done ?_
          | (refine r_id ?_; first
            | refine r_ev tab_ok rfl rfl rfl rfl (by first | exact trivial | exact ⟨by omega, by omega⟩ | omega | exact ⟨by omega, by omega, by omega, by omega⟩ | exact Nat.le_of_ble_eq_true rfl) rfl ?_))
        exact ⟨⟨(s.size + 1, none), by omega, fun _ h => (nomatch h), by rw [← heq, List.drop_of_length_le (by omega), sp]⟩, by dsimp only; omega, fits_of rfl (by repeat' first | exact trivial | exact Sub.refl _ | exact rfl | apply And.intro)⟩
theorem attrL_none {n : ByteArray} : ∀ {l : List At}, (attrL l n).2 = false → (attrL l n).1 = emS
  | [], _ => rfl
  | a :: r, h => by
    rw [attrL] at h ⊢
    split at h
    · cases h
    · rename_i hn
      rw [if_neg hn]
      exact attrL_none h
theorem attrF_none {gs : List Nt} {i : Int} {n : ByteArray} (h : (attrF gs i n).2 = false) : (attrF gs i n).1 = emS := by
  rw [attrF] at h ⊢
  split at h
  · rename_i hb
    rw [if_pos hb]; exact attrL_none h
  · rename_i hb
    rw [if_neg hb]
theorem words_em (w : ByteArray) : ((wordsF emS).any fun x => decide (w = x)) = false := rfl
theorem ref_has_ok (gs : List Nt) (i : Int) (w : ByteArray) (hg : gs.length ≤ 1099511627776) (hk : ∀ n ∈ gs, n.r.attrs.length ≤ 1099511627776) (hv : ∀ n, (attrF gs i n).1.size ≤ 1099511627776) : PCalls Try.prog 23 [rfA gs, .val (.int .i64 i), .val (.string w)] (.val (.bool (hasF gs i w))) := by
  have hA := ref_attr_ok gs i clsS hg hk
  have hW := word_ok (attrF gs i clsS).1 w (hv _)
  refine p_start Try.func23 Try.ntmps23 rfl rfl rfl fun S w0 => ?_
  rw [hasF]
  repeat (first
    | refine awp_seq ?_
    | refine a_region ?_
    | refine r_done ?_
    | (refine r_id ?_; first
      | refine r_ev tab_ok rfl rfl rfl rfl (by first | exact trivial | exact ⟨by omega, by omega⟩ | omega | exact ⟨by omega, by omega, by omega, by omega⟩ | exact Nat.le_of_ble_eq_true rfl) rfl ?_))
  refine r_call hA call22 rfl rfl ⟨Sub.refl _, Sub.refl _, Sub.refl _, trivial⟩ rfl rfl rfl rfl ?_
  repeat (first
    | refine awp_seq ?_
    | refine a_region ?_
    | refine r_done ?_
    | (refine r_id ?_; first
      | refine r_ev tab_ok rfl rfl rfl rfl (by first | exact trivial | exact ⟨by omega, by omega⟩ | omega | exact ⟨by omega, by omega, by omega, by omega⟩ | exact Nat.le_of_ble_eq_true rfl) rfl ?_
      | refine r_ev_cnd tab_ok rfl rfl rfl rfl rfl rfl (by first | exact fun _ => rfl | exact cs1 | exact cs2 | exact cs3) (by first | exact fun _ => trivial | (intro h; simp at h; first | exact ⟨by omega, by omega⟩ | omega)) rfl ?_))
  refine r_call_cnd (fun _ => hW) call41 rfl rfl rfl rfl (by first | exact fun _ => rfl | exact cs1 | exact cs2 | exact cs3) ⟨Sub.refl _, Sub.refl _, trivial⟩ rfl rfl rfl rfl ?_
  repeat (first
    | refine thenA_normal ?_
    | refine awp_ret ?_
    | refine r_done ?_
    | (refine r_id ?_; first
      | refine r_ev tab_ok rfl rfl rfl rfl (by first | exact trivial | exact ⟨by omega, by omega⟩ | omega | exact ⟨by omega, by omega, by omega, by omega⟩ | exact Nat.le_of_ble_eq_true rfl) rfl ?_
      | refine r_and rfl rfl rfl rfl rfl rfl rfl rfl ?_)
    | refine ret1 (by first | exact .inl rfl | exact .inr rfl) rfl rfl rfl ?_)
  refine Sub.of_eq ?_
  cases h : (attrF gs i clsS).2 with
  | true => rw [Bool.true_and]
  | false => rw [attrF_none h, words_em]; rfl
def atV (a : At) : Value := .agg #[.string a.name, .string a.value]
theorem atV_of {a : At} {M : List AB} {β : Env} {w : World} {imm : Nat → Prop} {v : Value} (h : AVsat M β w imm (atA a) v) : v = atV a := by
  obtain ⟨⟨cs⟩, rfl, _, _, h1, rfl, _, _, h2, rfl, h3⟩ := h
  rw [h3] at h2; rw [h2] at h1
  simp only at h1
  rw [atV, h1]
theorem run_eqAt (a : At) (w : World) : (Op.equalIn 10000 42 (atV a) (atV a)).run Try.prog w = .ok true w := by
  have hS : Try.prog.underlying 42 = some (.struct (Try.prog.fieldsOf 42)) := by kernel_rfl
  have hp : Try.prog.stoodInHeld 42 = false := by kernel_rfl
  have us := Try.underlying9
  have hps := Try.isAgg9 w
  rw [show (10000 : Nat) = 9999 + 1 from rfl, atV, run_equalIn_agg w 9999 _ _ _ hS hp]
  simp only [Program.fieldsOf, Try.underlying42, Op.eqFields, part, Sem.run_bind, Sem.run_ite, hps, Result.andThen_ok]
  simp [run_equalIn_string w 9998 _ _ _ us]
section
variable {o : Oper} {M : List AB} {ρ : Operand → AV}
theorem astep_neqAt {u : TypeId} {x y : Operand} {a : At} (ho : o.op = .binOp .neq 42 x y u) (hx : ρ x = atA a) (hy : ρ y = atA a) : AStep Try.prog o M ρ M (.val (.bool false)) :=
  .value fun S B β e w _ hs => by
    have h1 := hs x (by simp [ho, Op.operands])
    have h2 := hs y (by simp [ho, Op.operands])
    rw [hx] at h1; rw [hy] at h2
    have h1 := atV_of h1
    have h2 := atV_of h2
    refine ⟨_, ?_, rfl⟩
    have hg : (eqGuard .neq 42 x y (atV a) (atV a)).run Try.prog w = .ok () w := run_eqGuard_agg w _ _ _ _ _ _ (by kernel_rfl)
    have he : (binOp .neq 42 (atV a) (atV a)).run Try.prog w = .ok (.bool (!true)) w := by
      have := run_neq_struct (P := Try.prog) w 42 #[.string a.name, .string a.value] #[.string a.name, .string a.value]
      rw [← atV, run_eqAt] at this
      exact this
    simp only [execOp, ho, h1, h2, Sem.run_bind, hg, he, Result.andThen_ok]
    rfl
variable {ops : Array Oper} {N : Nat} {K : AS → Prop} {r : List Oper} {fo fo' : Option (List Nat)} {F : List (Nat × AV)} {dt : Tmp}
theorem r_neqAt {u : TypeId} {x y : Operand} {a : At} (hg : o.guard = none) (ho : o.op = .binOp .neq 42 x y u) (hx : aval (look F) x = atA a) (hy : aval (look F) y = atA a) (hdd : o.dst = some dt) (hd : dstB o.dst N = true) (hp : popF fo 1 = some fo')
    (k : RunX Try.prog ops N K r fo' M ((dt, .val (.bool false)) :: F)) : RunX Try.prog ops N K (o :: r) fo M F :=
  RunX.mk (fun _ k => Run.quiet hd (StepG.plain hg (astep_neqAt ho hx hy)) (by rw [put_eq hdd]; exact k)) hp k
end
theorem raw_ok (r : Rw) (hr : r.attrs.length ≤ 1099511627776) : PCalls Try.prog 21 [rwA r, rwA r] (.val (.bool true)) := by
  refine p_start Try.func21 Try.ntmps21 rfl rfl rfl fun S w0 => ?_
  repeat (first
    | refine awp_seq ?_
    | refine thenA_normal ?_
    | refine a_region ?_
    | refine r_done ?_
    | (refine r_id ?_; first
      | refine r_ev tab_ok rfl rfl rfl rfl (by first | exact trivial | exact ⟨by omega, by omega⟩ | omega | exact ⟨by omega, by omega, by omega, by omega⟩ | exact Nat.le_of_ble_eq_true rfl) rfl ?_
      | refine r_ld tab_ok rfl rfl rfl rfl rfl ?_
      | refine r_wr tab_ok rfl rfl rfl rfl rfl ?_
      | refine r_len_cnd tab_ok rfl rfl rfl rfl rfl rfl (by first | exact fun _ => rfl | exact cs1) rfl rfl rfl ?_
      | refine r_ev_cnd tab_ok rfl rfl rfl rfl rfl rfl (by first | exact fun _ => rfl | exact cs1 | exact cs2 | exact cs3) (by first | exact fun _ => trivial | (intro h; simp at h; first | exact ⟨by omega, by omega⟩ | omega)) rfl ?_
      | refine r_ld_cnd tab_ok rfl rfl rfl rfl rfl rfl (by first | exact fun _ => rfl | exact cs1 | exact cs2 | exact cs3) rfl ?_
      | refine r_or rfl rfl rfl rfl rfl rfl rfl rfl ?_))
  refine awp_cond rfl (fun hc => ?_) (fun _ => ?_)
  · exfalso
    simp at hc
  repeat (first
    | refine awp_seq ?_
    | refine thenA_normal ?_
    | refine awp_block ?_
    | refine a_region ?_
    | refine awp_skip ?_
    | refine r_done ?_
    | (refine r_id ?_; first
      | refine r_ev tab_ok rfl rfl rfl rfl (by first | exact trivial | exact ⟨by omega, by omega⟩ | omega | exact ⟨by omega, by omega, by omega, by omega⟩ | exact Nat.le_of_ble_eq_true rfl) rfl ?_))
  refine a_loop (σ := {j : Nat // j ≤ r.attrs.length}) (fun _ => [.box 26 [.val (.int .i64 r.parent), .val (.string r.tag), .val (.string r.text), .sl 2 (r.attrs.map atD)], .box 26 [.val (.int .i64 r.parent), .val (.string r.tag), .val (.string r.text), .sl 2 (r.attrs.map atD)]])
    (fun x => [(2, .ptr 0 0), (3, .ptr 1 0), (5, .val (.int .i64 x.1))]) (fun x => r.attrs.length - x.1) ⟨0, Nat.zero_le _⟩ (fits_of rfl (by repeat' first | exact trivial | exact Sub.refl _ | exact rfl | apply And.intro)) ?_
  rintro ⟨j, hj⟩
  dsimp only
  repeat (first
    | refine awp_seq ?_
    | refine thenA_normal ?_
    | refine a_region ?_
    | refine r_done ?_
    | (refine r_id ?_; first
      | refine r_len tab_ok rfl rfl rfl rfl rfl rfl rfl ?_
      | refine r_ev tab_ok rfl rfl rfl rfl (by first | exact trivial | exact ⟨by omega, by omega⟩ | omega | exact ⟨by omega, by omega, by omega, by omega⟩ | exact Nat.le_of_ble_eq_true rfl) rfl ?_
      | refine r_ld tab_ok rfl rfl rfl rfl rfl ?_))
  refine awp_cond_p rfl (fun hlt => ?_) (fun hge => ?_)
  · have hj' : j < r.attrs.length := by omega
    repeat (first
      | refine awp_seq ?_
      | refine awp_block ?_
      | refine a_draw1 mixed_ok (by kernel_rfl) ?_
      | refine awp_skip ?_
      | (refine r_id ?_; first
        | refine r_ev tab_ok rfl rfl rfl rfl (by first | exact trivial | exact ⟨by omega, by omega⟩ | omega | exact ⟨by omega, by omega, by omega, by omega⟩ | exact Nat.le_of_ble_eq_true rfl) rfl ?_
        | refine r_ld tab_ok rfl rfl rfl rfl rfl ?_
        | refine r_idx tab_ok rfl rfl rfl rfl rfl rfl rfl (by first | exact ⟨by omega, by omega⟩ | (simp; omega)) rfl rfl ?_))
    refine r_neqAt (a := r.attrs[((j : Nat) : Int).toNat]'hj') rfl rfl rfl rfl rfl rfl rfl ?_
    repeat (first
      | refine thenA_normal ?_
      | refine a_region ?_
      | refine awp_skip ?_
      | refine r_done ?_
      | refine r_done' ?_
      | (refine r_id ?_; first
        | refine r_ev tab_ok rfl rfl rfl rfl (by first | exact trivial | exact ⟨by omega, by omega⟩ | omega | exact ⟨by omega, by omega, by omega, by omega⟩ | exact Nat.le_of_ble_eq_true rfl) rfl ?_)
      | refine awp_cond_f rfl ?_)
    exact ⟨⟨j + 1, by omega⟩, by dsimp only; omega, fits_of rfl (by repeat' first | exact trivial | exact Sub.refl _ | exact rfl | apply And.intro)⟩
  · repeat (first
      | refine awp_seq ?_
      | refine thenA_normal ?_
      | refine a_region ?_
      | refine awp_ret ?_
      | refine awp_exit ?_
      | refine r_done ?_
      | (refine r_id ?_; first
        | refine r_ev tab_ok rfl rfl rfl rfl (by first | exact trivial | exact ⟨by omega, by omega⟩ | omega | exact ⟨by omega, by omega, by omega, by omega⟩ | exact Nat.le_of_ble_eq_true rfl) rfl ?_)
      | refine ret1 (by first | exact .inl rfl | exact .inr rfl) rfl rfl rfl ?_)
    exact Sub.refl _
end Go.Proofs.Ytklodolkgdmhoaa
