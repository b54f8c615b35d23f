/- The law DomTells. -/
import Derived.Test.YtklodolkgdmhoaaWu
namespace Go.Proofs.Ytklodolkgdmhoaa
open Go Go.RowKit

theorem table_sm2 {l : List Rw} (h : tableB l = true) : l.length ≤ 24 ∧ ∀ r ∈ l, r.tag.size ≤ 50 ∧ r.text.size ≤ 3000 ∧ r.attrs.length ≤ 8 ∧ ∀ a ∈ r.attrs, a.name.size ≤ 50 ∧ a.value.size ≤ 3000 := by
  simp only [tableB, Bool.and_eq_true, Bool.not_eq_true', decide_eq_false_iff_not, List.all_eq_true, okRw, okA] at h
  obtain ⟨h1, h2⟩ := h
  refine ⟨by omega, fun r hr => ?_⟩
  obtain ⟨⟨⟨a, b⟩, c⟩, d⟩ := h2 r hr
  exact ⟨by omega, by omega, by omega, fun x hx => ⟨by have := (d x hx).1; omega, by have := (d x hx).2; omega⟩⟩
theorem table_smR2 {l : List Rw} (h : tableB l = true) : ∀ r ∈ l, smR r := fun r hr => by
  obtain ⟨h1, h2, h3, h4⟩ := (table_sm2 h).2 r hr
  exact ⟨by omega, by omega, fun a ha => ⟨by have := (h4 a ha).1; omega, by have := (h4 a ha).2; omega⟩⟩
theorem kids_len2 {gs : List Nt} {l : List Rw} (hgd : Good l gs) (hl : gs.length = l.length) : ∀ n ∈ gs, n.kids.length ≤ l.length := fun n hn => by
  obtain ⟨i, hi, rfl⟩ := List.mem_iff_getElem.1 hn
  rw [ntAt_get hi, hgd.kids i hi, hl]
  exact Nat.le_trans (List.length_filter_le _ _) (by rw [List.length_range]; exact Nat.le_refl _)
theorem lowA_val (b : Bool) (p : At → Prop) (hp : ∀ n m v, p ⟨n, v⟩ → p ⟨m, v⟩) : ∀ (l acc : List At), (∀ a ∈ l, p a) → (∀ a ∈ acc, p a) → ∀ a ∈ lowA b acc l, p a
  | [], acc, _, h => h
  | x :: r, acc, h1, h2 => by
    rw [lowA]
    refine lowA_val b p hp r _ (fun a ha => h1 a (List.mem_cons_of_mem _ ha)) fun a ha => ?_
    split at ha
    · exact h2 a ha
    · rcases List.mem_append.1 ha with h | h
      · exact h2 a h
      · rw [List.mem_singleton.1 h]
        exact hp x.name _ x.value (h1 x List.mem_cons_self)
theorem nt_attrs {l : List Rw} {gs : List Nt} (T : Tied l gs) (htb : tableB l = true) : ∀ n ∈ gs, n.r.attrs.length ≤ 8 ∧ ∀ a ∈ n.r.attrs, a.value.size ≤ 3000 := fun n hn => by
  obtain ⟨i, hi, rfl⟩ := List.mem_iff_getElem.1 hn
  have hil : i < l.length := by have := T.hl; omega
  rw [ntAt_get hi, T.gd.r i hi]
  have hm : rwAt l i ∈ l := by
    rw [rwAt, List.getD_eq_getElem?_getD, List.getElem?_eq_getElem hil]; exact List.getElem_mem hil
  obtain ⟨_, _, h3, h4⟩ := (table_sm2 htb).2 _ hm
  refine ⟨?_, lowA_val _ (fun a => a.value.size ≤ 3000) (fun _ _ _ h => h) _ _ (fun a ha => (h4 a ha).2) (fun a ha => by cases ha)⟩
  have := lowA_len (decide (lowS (rwAt l i).tag = emS)) (rwAt l i).attrs []
  show (lowA _ _ _).length ≤ 8
  simp only [List.length_nil] at this
  omega
set_option maxHeartbeats 8000000 in
theorem lawTells (l : List Rw) (n w : ByteArray) (hl : l.length ≤ 9223372036854775807) (hs : ∀ r ∈ l, r.attrs.length ≤ 9223372036854775807) (hn : n.size ≤ 9223372036854775807) (hw : w.size ≤ 9223372036854775807) :
    PCalls Try.prog 6 [.sl 4 (l.map rwD), .val (.string n), .val (.string w)] (.val (.bool true)) := by
  have hT := table_ok l hl hs
  have hlm : (l.map rwD).length = l.length := List.length_map _
  refine p_start Try.func6 Try.ntmps6 rfl rfl rfl fun S w0 => ?_
  cases htb : tableB l with
  | false =>
    rw [htb] at hT
    repeat (first
      | refine awp_seq ?_
      | refine a_region ?_
      | refine r_done ?_
      | (refine r_id ?_; first
        | refine r_ev tab_ok rfl rfl rfl rfl (by first | exact trivial | exact ⟨by omega, by omega⟩ | omega | exact ⟨by omega, by omega, by omega, by omega⟩ | exact Nat.le_of_ble_eq_true rfl) rfl ?_))
    refine r_call hT call17 rfl rfl ⟨Sub.refl _, trivial⟩ rfl rfl rfl rfl ?_
    repeat (first
      | refine awp_seq ?_
      | refine thenA_normal ?_
      | refine a_region ?_
      | refine r_done ?_
      | (refine r_id ?_; first
        | refine r_ev tab_ok rfl rfl rfl rfl (by first | exact trivial | exact ⟨by omega, by omega⟩ | omega | exact ⟨by omega, by omega, by omega, by omega⟩ | exact Nat.le_of_ble_eq_true rfl) rfl ?_
        | refine r_ev_cnd tab_ok rfl rfl rfl rfl rfl rfl (by first | exact fun _ => rfl | exact cs1 | exact cs2 | exact cs3) (by first | exact fun _ => trivial | (intro h; simp at h; first | exact ⟨by omega, by omega⟩ | omega)) rfl ?_
        | refine r_or rfl rfl rfl rfl rfl rfl rfl rfl ?_)
      | refine awp_cond_t rfl ?_)
    refine r_call awake_ok call8 rfl rfl trivial rfl rfl rfl rfl ?_
    repeat (first
      | refine thenA_normal ?_
      | refine awp_ret ?_
      | refine thenA_ret ?_
      | refine r_done ?_
      | (refine r_id ?_; first
        | refine r_ev tab_ok rfl rfl rfl rfl (by first | exact trivial | exact ⟨by omega, by omega⟩ | omega | exact ⟨by omega, by omega, by omega, by omega⟩ | exact Nat.le_of_ble_eq_true rfl) rfl ?_)
      | refine ret1 (by first | exact .inl rfl | exact .inr rfl) rfl rfl rfl ?_)
    exact Sub.refl _
  | true =>
    rw [htb] at hT
    obtain ⟨h24, hsm⟩ := table_sm2 htb
    have hN := new_ok l (by omega) (table_smR2 htb)
    have hM := newTree_ok l (by omega) (table_smR2 htb)
    repeat (first
      | refine awp_seq ?_
      | refine a_region ?_
      | refine r_done ?_
      | (refine r_id ?_; first
        | refine r_ev tab_ok rfl rfl rfl rfl (by first | exact trivial | exact ⟨by omega, by omega⟩ | omega | exact ⟨by omega, by omega, by omega, by omega⟩ | exact Nat.le_of_ble_eq_true rfl) rfl ?_))
    refine r_call hT call17 rfl rfl ⟨Sub.refl _, trivial⟩ rfl rfl rfl rfl ?_
    repeat (first
      | refine thenA_normal ?_
      | refine r_done ?_
      | (refine r_id ?_; first
        | refine r_ev tab_ok rfl rfl rfl rfl (by first | exact trivial | exact ⟨by omega, by omega⟩ | omega | exact ⟨by omega, by omega, by omega, by omega⟩ | exact Nat.le_of_ble_eq_true rfl) rfl ?_
        | refine r_ev_cnd tab_ok rfl rfl rfl rfl rfl rfl (by first | exact fun _ => rfl | exact cs1 | exact cs2 | exact cs3) (by first | exact fun _ => trivial | (intro h; simp at h; first | exact ⟨by omega, by omega⟩ | omega)) rfl ?_
        | refine r_or rfl rfl rfl rfl rfl rfl rfl rfl ?_))
    refine awp_cond rfl (fun hc => ?_) (fun hc => ?_)
    · repeat (first
        | refine awp_seq ?_
        | refine a_region ?_)
      refine r_call awake_ok call8 rfl rfl trivial rfl rfl rfl rfl ?_
      repeat (first
        | refine thenA_normal ?_
        | refine awp_ret ?_
        | refine thenA_ret ?_
        | refine r_done ?_
        | (refine r_id ?_; first
          | refine r_ev tab_ok rfl rfl rfl rfl (by first | exact trivial | exact ⟨by omega, by omega⟩ | omega | exact ⟨by omega, by omega, by omega, by omega⟩ | exact Nat.le_of_ble_eq_true rfl) rfl ?_)
        | refine ret1 (by first | exact .inl rfl | exact .inr rfl) rfl rfl rfl ?_)
      exact Sub.refl _
    repeat (first
      | refine awp_seq ?_
      | refine a_region ?_
      | refine awp_skip ?_
      | (refine r_id ?_; first
        | refine r_ev tab_ok rfl rfl rfl rfl (by first | exact trivial | exact ⟨by omega, by omega⟩ | omega | exact ⟨by omega, by omega, by omega, by omega⟩ | exact Nat.le_of_ble_eq_true rfl) rfl ?_))
    cases hnew : newF l with
    | none =>
      rw [hnew] at hN hM
      refine r_call hN call10 rfl rfl ⟨Sub.refl _, trivial⟩ rfl rfl rfl rfl ?_
      repeat (first
        | refine awp_seq ?_
        | refine a_region ?_
        | refine r_done ?_
        | (refine r_id ?_; first
          | refine r_ev tab_ok rfl rfl rfl rfl (by first | exact trivial | exact ⟨by omega, by omega⟩ | omega | exact ⟨by omega, by omega, by omega, by omega⟩ | exact Nat.le_of_ble_eq_true rfl) rfl ?_))
      refine r_call hM call11 rfl rfl ⟨Sub.refl _, trivial⟩ rfl rfl rfl rfl ?_
      repeat (first
        | refine awp_seq ?_
        | refine thenA_normal ?_
        | refine a_region ?_
        | refine r_done ?_
        | (refine r_id ?_; first
          | refine r_ev tab_ok rfl rfl rfl rfl (by first | exact trivial | exact ⟨by omega, by omega⟩ | omega | exact ⟨by omega, by omega, by omega, by omega⟩ | exact Nat.le_of_ble_eq_true rfl) rfl ?_
          | refine r_ev_cnd tab_ok rfl rfl rfl rfl rfl rfl (by first | exact fun _ => rfl | exact cs1 | exact cs2 | exact cs3) (by first | exact fun _ => trivial | (intro h; simp at h; first | exact ⟨by omega, by omega⟩ | omega)) rfl ?_
          | refine r_and rfl rfl rfl rfl rfl rfl rfl rfl ?_)
        | refine awp_cond_t rfl ?_
        | refine r_by_cnd (fun _ => astep_eqnil_nil underT rfl rfl rfl) rfl rfl rfl (by first | exact fun _ => rfl | exact cs1 | exact cs2 | exact cs3) rfl rfl rfl rfl ?_
        | refine r_by (fun _ => astep_eqnil_nil underR rfl rfl rfl) rfl rfl rfl rfl rfl ?_)
      refine r_call_cnd (fun _ => awake_ok) call8 rfl rfl rfl rfl (by first | exact fun _ => rfl | exact cs1 | exact cs2 | exact cs3) trivial rfl rfl rfl rfl ?_
      repeat (first
        | refine thenA_normal ?_
        | refine awp_ret ?_
        | refine thenA_ret ?_
        | refine r_done ?_
        | (refine r_id ?_; first
          | refine r_ev tab_ok rfl rfl rfl rfl (by first | exact trivial | exact ⟨by omega, by omega⟩ | omega | exact ⟨by omega, by omega, by omega, by omega⟩ | exact Nat.le_of_ble_eq_true rfl) rfl ?_
          | refine r_and rfl rfl rfl rfl rfl rfl rfl rfl ?_)
        | refine ret1 (by first | exact .inl rfl | exact .inr rfl) rfl rfl rfl ?_)
      exact Sub.of_eq rfl
    | some gs =>
      rw [hnew] at hN hM
      have T := tied_new hnew
      have hgl := T.hl
      have hp := okPar_of T.gd T.hl
      have h0 := T.p0.1
      have hg : gs.length ≤ 1099511627776 := by omega
      have hk : ∀ n ∈ gs, n.kids.length ≤ 1099511627776 := fun n hn => by have := kids_len2 T.gd T.hl n hn; omega
      have hna := nt_attrs T htb
      have hka : ∀ n ∈ gs, n.r.attrs.length ≤ 1099511627776 := fun n hn => by have := (hna n hn).1; omega
      have hva : ∀ i n, (attrF gs i n).1.size ≤ 1099511627776 := fun i n => Nat.le_trans (attrF_sz (b := 3000) (fun n hn => (hna n hn).2) i n) (by omega)
      have hL := len_ok gs hg
      have hO := order_ok hg T.gd T.hl h0
      have hO2 := ref_order_ok T hg
      have hOl := walk0_len hp h0
      have hI := ints_ok (walkP l 0) (walkP l 0) (by omega) (by omega)
      rw [decide_eq_true rfl] at hI
      refine r_call hN call10 rfl rfl ⟨Sub.refl _, trivial⟩ rfl rfl rfl rfl ?_
      repeat (first
        | refine awp_seq ?_
        | refine a_region ?_
        | refine r_done ?_
        | (refine r_id ?_; first
          | refine r_ev tab_ok rfl rfl rfl rfl (by first | exact trivial | exact ⟨by omega, by omega⟩ | omega | exact ⟨by omega, by omega, by omega, by omega⟩ | exact Nat.le_of_ble_eq_true rfl) rfl ?_))
      refine r_call hM call11 rfl rfl ⟨Sub.refl _, trivial⟩ rfl rfl rfl rfl ?_
      repeat (first
        | refine awp_seq ?_
        | refine thenA_normal ?_
        | refine a_region ?_
        | refine awp_skip ?_
        | refine r_done ?_
        | (refine r_id ?_; first
          | refine r_ev tab_ok rfl rfl rfl rfl (by first | exact trivial | exact ⟨by omega, by omega⟩ | omega | exact ⟨by omega, by omega, by omega, by omega⟩ | exact Nat.le_of_ble_eq_true rfl) rfl ?_
          | refine r_len_cnd tab_ok rfl rfl rfl rfl rfl rfl (by first | exact fun _ => rfl | exact cs1) rfl rfl rfl ?_
          | refine r_ev_cnd tab_ok rfl rfl rfl rfl rfl rfl (by first | exact fun _ => rfl | exact cs1 | exact cs2 | exact cs3) (by first | exact fun _ => trivial | (intro h; simp at h; first | exact ⟨by omega, by omega⟩ | omega)) rfl ?_
          | refine r_or rfl rfl rfl rfl rfl rfl rfl rfl ?_)
        | refine awp_cond_f rfl ?_
        | refine r_by_cnd (fun _ => astep_eqnil_d underT rfl rfl rfl) rfl rfl rfl (by first | exact fun _ => rfl | exact cs1 | exact cs2 | exact cs3) rfl rfl rfl rfl ?_
        | refine r_by (fun _ => astep_eqnil_d underR rfl rfl rfl) rfl rfl rfl rfl rfl ?_
        | refine r_call_cnd (fun _ => len_ok _ hg) call18 rfl rfl rfl rfl (by first | exact fun _ => rfl | exact cs1 | exact cs2 | exact cs3) ⟨Sub.refl _, trivial⟩ rfl rfl rfl rfl ?_)
      refine r_call_cnd (fun _ => hO) call12 rfl rfl rfl rfl (by first | exact fun _ => rfl | exact cs1 | exact cs2 | exact cs3) ⟨Sub.refl _, trivial⟩ rfl rfl rfl rfl ?_
      repeat (first
        | (refine r_id ?_; first
          | refine r_ev_cnd tab_ok rfl rfl rfl rfl rfl rfl (by first | exact fun _ => rfl | exact cs1 | exact cs2 | exact cs3) (by first | exact fun _ => trivial | (intro h; simp at h; first | exact ⟨by omega, by omega⟩ | omega)) rfl ?_))
      refine r_call_cnd (fun _ => hO2) call20 rfl rfl rfl rfl (by first | exact fun _ => rfl | exact cs1 | exact cs2 | exact cs3) ⟨Sub.refl _, trivial⟩ rfl rfl rfl rfl ?_
      refine r_call_cnd (fun _ => hI) call19 rfl rfl rfl rfl (by first | exact fun _ => rfl | exact cs1 | exact cs2 | exact cs3) ⟨Sub.refl _, Sub.refl _, trivial⟩ rfl rfl rfl rfl ?_
      repeat (first
        | refine thenA_normal ?_
        | refine r_done ?_
        | (refine r_id ?_; first
          | refine r_ev_cnd tab_ok rfl rfl rfl rfl rfl rfl (by first | exact fun _ => rfl | exact cs1 | exact cs2 | exact cs3) (by first | exact fun _ => trivial | (intro h; simp at h; first | exact ⟨by omega, by omega⟩ | omega)) rfl ?_
          | refine r_or rfl rfl rfl rfl rfl rfl rfl rfl ?_))
      refine awp_cond rfl (fun hc2 => ?_) (fun _ => ?_)
      · exfalso
        simp [hgl] at hc2
      repeat (first
        | refine awp_seq ?_
        | refine thenA_normal ?_
        | refine awp_block ?_
        | refine a_region ?_
        | refine awp_skip ?_
        | refine r_done ?_
        | (refine r_id ?_; first
          | refine r_ev tab_ok rfl rfl rfl rfl (by first | exact trivial | exact ⟨by omega, by omega⟩ | omega | exact ⟨by omega, by omega, by omega, by omega⟩ | exact Nat.le_of_ble_eq_true rfl) rfl ?_))
      refine a_loop (σ := {k : Nat // k ≤ l.length + 2}) (fun _ => []) (fun x => [(0, .sl 4 (l.map rwD)), (1, .val (.string n)), (2, .val (.string w)), (7, trA gs), (9, rfA gs), (10, .val (.int .i64 ((x.1 : Int) - 1)))]) (fun x => l.length + 2 - x.1) ⟨0, Nat.zero_le _⟩ (fits_of rfl (by repeat' first | exact trivial | exact Sub.refl _ | exact rfl | apply And.intro)) ?_
      rintro ⟨k, hkk⟩
      dsimp only
      repeat (first
        | refine awp_seq ?_
        | refine thenA_normal ?_
        | refine a_region ?_
        | refine r_done ?_
        | (refine r_id ?_; first
          | refine r_len tab_ok rfl rfl rfl rfl rfl rfl rfl ?_
          | refine r_ev tab_ok rfl rfl rfl rfl (by first | exact trivial | exact ⟨by omega, by omega⟩ | omega | exact ⟨by omega, by omega, by omega, by omega⟩ | exact Nat.le_of_ble_eq_true rfl) rfl ?_))
      refine awp_cond_p rfl (fun hle => ?_) (fun hgt => ?_)
      rotate_left
      · repeat (first
          | refine awp_seq ?_
          | refine a_region ?_
          | refine awp_exit ?_)
        refine r_call awake_ok call8 rfl rfl trivial rfl rfl rfl rfl ?_
        repeat (first
          | refine thenA_normal ?_
          | refine awp_ret ?_
          | refine r_done ?_
          | (refine r_id ?_; first
            | refine r_ev tab_ok rfl rfl rfl rfl (by first | exact trivial | exact ⟨by omega, by omega⟩ | omega | exact ⟨by omega, by omega, by omega, by omega⟩ | exact Nat.le_of_ble_eq_true rfl) rfl ?_)
          | refine ret1 (by first | exact .inl rfl | exact .inr rfl) rfl rfl rfl ?_)
        exact Sub.refl _
      obtain ⟨i, hi⟩ : ∃ i : Int, i = (k : Int) - 1 := ⟨_, rfl⟩
      have hib : -1 ≤ i ∧ i ≤ l.length := by omega
      rw [← hi]
      have hki := kidF_len (i := i) hk
      have hei := elemF_len (i := i) hk
      have cA := attr_ok gs i n hg hka
      have cA2 := ref_attr_ok gs i n hg hka
      have cH := hascls_ok gs i w hg hka (hva i)
      have cH2 := ref_has_ok gs i w hg hka (hva i)
      have cK := kids_ok gs i hg hk
      have cK2 := ref_kids_ok gs i false hg
      have cE := elem_ok gs i hg hk
      have cE2 := ref_kids_ok gs i true hg
      rw [(kidsR_eq T i).1] at cK2
      rw [(kidsR_eq T i).2] at cE2
      have cD := depth_ok gs i hg
      have cD2 := ref_depth_ok T i hg
      have cB := before_ok gs i hg hk
      have cB2 := ref_before_ok T i (by omega) hg
      rw [befR_eq T i hib.1] at cB2
      have hbi : (befF gs i).length ≤ 1099511627776 := by
        rw [befF, List.length_reverse]
        exact Nat.le_trans (List.length_filter_le _ _) (elemF_len hk)
      have cI1 := ints_ok (kidF gs i) (kidF gs i) hki hki
      have cI2 := ints_ok (elemF gs i) (elemF gs i) hei hei
      have cI3 := ints_ok (befF gs i) (befF gs i) hbi hbi
      rw [decide_eq_true rfl] at cI1 cI2 cI3
      have cN := node_ok gs i hg hka
      refine awp_skip ?_
      refine thenA_normal ?_
      refine awp_seq ?_
      refine awp_block ?_
      refine awp_seq ?_
      repeat (first
        | refine thenA_normal ?_
        | refine a_region ?_
        | refine r_done ?_
        | (refine r_id ?_; first
          | refine r_ev tab_ok rfl rfl rfl rfl (by first | exact trivial | exact ⟨by omega, by omega⟩ | omega | exact ⟨by omega, by omega, by omega, by omega⟩ | exact Nat.le_of_ble_eq_true rfl) rfl ?_
          | refine r_wr tab_ok rfl rfl rfl rfl rfl ?_
          | refine r_st tab_ok rfl rfl rfl rfl ?_)
        | refine r_call cN call15 rfl rfl ⟨Sub.refl _, Sub.refl _, trivial⟩ rfl rfl rfl rfl ?_)
      refine awp_seq ?_
      refine awp_cutw ⟨[], [(0, .sl 4 (l.map rwD)), (1, .val (.string n)), (2, .val (.string w)), (7, trA gs), (9, rfA gs), (10, .val (.int .i64 i))]⟩ ?_ ?_
      · clear cA cA2 cH cH2 cK cK2 cE cE2 cD cD2 cB cB2 cI1 cI2 cI3
        refine awp_seq ?_
        refine a_draw1 mixed_ok (by kernel_rfl) ?_
        iterate 4 (refine r_ev tab_ok rfl rfl rfl rfl (by first | exact trivial | omega) rfl ?_)
        iterate 2 (refine r_ev_cnd tab_ok rfl rfl rfl rfl rfl rfl (by first | exact fun _ => rfl | exact cs1 | exact cs2 | exact cs3) (fun _ => trivial) rfl ?_)
        refine r_len_cnd tab_ok rfl rfl rfl rfl rfl rfl (by first | exact fun _ => rfl | exact cs1 | exact cs2 | exact cs3) rfl rfl rfl ?_
        refine r_ev_cnd tab_ok rfl rfl rfl rfl rfl rfl (by first | exact fun _ => rfl | exact cs1 | exact cs2 | exact cs3) (fun _ => trivial) rfl ?_
        refine r_and rfl rfl rfl rfl rfl rfl rfl rfl ?_
        cases hb : inB gs i with
        | false =>
          have hbd : (decide (0 ≤ i) && decide (i < (l.length : Int))) = false := by rw [← hgl]; exact hb
          simp only [hbd]
          iterate 2 (refine r_ev tab_ok rfl rfl rfl rfl trivial rfl ?_)
          iterate 2 (refine r_ev_on tab_ok rfl rfl rfl rfl rfl rfl trivial rfl ?_)
          iterate 10 (refine r_off rfl rfl rfl rfl rfl rfl ?_)
          refine r_g rfl rfl rfl ?_
          refine r_pick_f rfl rfl rfl rfl rfl rfl rfl ?_
          refine r_pick_f rfl rfl rfl rfl rfl rfl rfl ?_
          repeat (first
            | refine thenA_normal ?_
            | refine awp_skip ?_
            | refine r_done' ?_
            | refine awp_cond_f rfl ?_)
          exact ⟨by first | rfl | trivial, fits_drop 0 rfl rfl (by repeat' first | exact trivial | exact Sub.refl _ | exact rfl | apply And.intro)⟩
        | true =>
          have hbd : (decide (0 ≤ i) && decide (i < (l.length : Int))) = true := by rw [← hgl]; exact hb
          obtain ⟨h0', h1', h2⟩ := inB_t hb
          have hgn := ntAt_get h2
          have hnf : nodeF gs i = (ntAt gs i.toNat).r := by rw [nodeF, hb]; rfl
          have hil : i.toNat < gs.length ∧ 0 ≤ i ∧ i < l.length := ⟨h2, h0', by omega⟩
          have hm2 : ntAt gs i.toNat ∈ gs := by rw [← hgn]; exact List.getElem_mem h2
          have cR := raw_ok (ntAt gs i.toNat).r (hka _ hm2)
          simp only [hnf, hbd]
          repeat (first
            | (refine r_id ?_; first
              | refine r_ev tab_ok rfl rfl rfl rfl (by first | exact trivial | exact ⟨by omega, by omega⟩ | omega | exact ⟨by omega, by omega, by omega, by omega⟩ | exact Nat.le_of_ble_eq_true rfl) rfl ?_
              | refine r_ev_cnd tab_ok rfl rfl rfl rfl rfl rfl (by first | exact fun _ => rfl | exact cs1 | exact cs2 | exact cs3) (by first | exact fun _ => trivial | (intro h; simp at h; first | exact ⟨by omega, by omega⟩ | omega)) rfl ?_
              | refine r_ld_cnd tab_ok rfl rfl rfl rfl rfl rfl (by first | exact fun _ => rfl | exact cs1 | exact cs2 | exact cs3) rfl ?_
              | refine r_idx_cnd tab_ok rfl rfl rfl rfl rfl rfl rfl (by first | exact fun _ => rfl | exact cs1 | exact cs2 | exact cs3) rfl rfl (by exact ⟨by omega, by omega⟩) rfl rfl ?_)
            | refine r_by_cnd (fun _ => astep_nilCheck rfl rfl) rfl rfl rfl (by first | exact fun _ => rfl | exact cs1 | exact cs2 | exact cs3) rfl rfl rfl rfl ?_)
          simp only [hgn]
          repeat (first
            | refine thenA_normal ?_
            | refine awp_skip ?_
            | refine r_done' ?_
            | (refine r_id ?_; first
              | refine r_ev_cnd tab_ok rfl rfl rfl rfl rfl rfl (by first | exact fun _ => rfl | exact cs1 | exact cs2 | exact cs3) (by first | exact fun _ => trivial | (intro h; simp at h; first | exact ⟨by omega, by omega⟩ | omega)) rfl ?_
              | refine r_and_cnd rfl rfl rfl rfl rfl rfl rfl rfl rfl rfl ?_
              | refine r_or rfl rfl rfl rfl rfl rfl rfl rfl ?_)
            | refine awp_cond_f rfl ?_
            | refine r_call_cnd (fun _ => cR) call21 rfl rfl rfl rfl (by first | exact fun _ => rfl | exact cs1 | exact cs2 | exact cs3) ⟨Sub.refl _, Sub.refl _, trivial⟩ rfl rfl rfl rfl ?_)
          exact ⟨by first | rfl | trivial, fits_drop 0 rfl rfl (by repeat' first | exact trivial | exact Sub.refl _ | exact rfl | apply And.intro)⟩
      · repeat (first
          | refine awp_seq ?_
          | refine thenA_normal ?_
          | refine a_region ?_
          | refine r_done ?_
          | (refine r_id ?_; first
            | refine r_ev tab_ok rfl rfl rfl rfl (by first | exact trivial | exact ⟨by omega, by omega⟩ | omega | exact ⟨by omega, by omega, by omega, by omega⟩ | exact Nat.le_of_ble_eq_true rfl) rfl ?_
            | refine r_ev_cnd tab_ok rfl rfl rfl rfl rfl rfl (by first | exact fun _ => rfl | exact cs1 | exact cs2 | exact cs3) (by first | exact fun _ => trivial | (intro h; simp at h; first | exact ⟨by omega, by omega⟩ | omega)) rfl ?_
            | refine r_or rfl rfl rfl rfl rfl rfl rfl rfl ?_)
          | refine r_call cA call14 rfl rfl ⟨Sub.refl _, Sub.refl _, Sub.refl _, trivial⟩ rfl rfl rfl rfl ?_
          | refine r_call cA2 call22 rfl rfl ⟨Sub.refl _, Sub.refl _, Sub.refl _, trivial⟩ rfl rfl rfl rfl ?_
          | refine r_call_cnd (fun _ => cH) call16 rfl rfl rfl rfl (by first | exact fun _ => rfl | exact cs1 | exact cs2 | exact cs3) ⟨Sub.refl _, Sub.refl _, Sub.refl _, trivial⟩ rfl rfl rfl rfl ?_
          | refine r_call_cnd (fun _ => cH2) call23 rfl rfl rfl rfl (by first | exact fun _ => rfl | exact cs1 | exact cs2 | exact cs3) ⟨Sub.refl _, Sub.refl _, Sub.refl _, trivial⟩ rfl rfl rfl rfl ?_
          | refine r_call_cnd (fun _ => cK) call24 rfl rfl rfl rfl (by first | exact fun _ => rfl | exact cs1 | exact cs2 | exact cs3) ⟨Sub.refl _, Sub.refl _, trivial⟩ rfl rfl rfl rfl ?_
          | refine r_call_cnd (fun _ => cK2) call25 rfl rfl rfl rfl (by first | exact fun _ => rfl | exact cs1 | exact cs2 | exact cs3) ⟨Sub.refl _, Sub.refl _, Sub.refl _, trivial⟩ rfl rfl rfl rfl ?_
          | refine r_call_cnd (fun _ => cE) call26 rfl rfl rfl rfl (by first | exact fun _ => rfl | exact cs1 | exact cs2 | exact cs3) ⟨Sub.refl _, Sub.refl _, trivial⟩ rfl rfl rfl rfl ?_
          | refine r_call_cnd (fun _ => cE2) call25 rfl rfl rfl rfl (by first | exact fun _ => rfl | exact cs1 | exact cs2 | exact cs3) ⟨Sub.refl _, Sub.refl _, Sub.refl _, trivial⟩ rfl rfl rfl rfl ?_
          | refine r_call_cnd (fun _ => cD) call27 rfl rfl rfl rfl (by first | exact fun _ => rfl | exact cs1 | exact cs2 | exact cs3) ⟨Sub.refl _, Sub.refl _, trivial⟩ rfl rfl rfl rfl ?_
          | refine r_call_cnd (fun _ => cD2) call28 rfl rfl rfl rfl (by first | exact fun _ => rfl | exact cs1 | exact cs2 | exact cs3) ⟨Sub.refl _, Sub.refl _, trivial⟩ rfl rfl rfl rfl ?_
          | refine r_call_cnd (fun _ => cB) call29 rfl rfl rfl rfl (by first | exact fun _ => rfl | exact cs1 | exact cs2 | exact cs3) ⟨Sub.refl _, Sub.refl _, trivial⟩ rfl rfl rfl rfl ?_
          | refine r_call_cnd (fun _ => cB2) call30 rfl rfl rfl rfl (by first | exact fun _ => rfl | exact cs1 | exact cs2 | exact cs3) ⟨Sub.refl _, Sub.refl _, trivial⟩ rfl rfl rfl rfl ?_
          | refine r_call_cnd (fun _ => cI1) call19 rfl rfl rfl rfl (by first | exact fun _ => rfl | exact cs1 | exact cs2 | exact cs3) ⟨Sub.refl _, Sub.refl _, trivial⟩ rfl rfl rfl rfl ?_
          | refine r_call_cnd (fun _ => cI2) call19 rfl rfl rfl rfl (by first | exact fun _ => rfl | exact cs1 | exact cs2 | exact cs3) ⟨Sub.refl _, Sub.refl _, trivial⟩ rfl rfl rfl rfl ?_
          | refine r_call_cnd (fun _ => cI3) call19 rfl rfl rfl rfl (by first | exact fun _ => rfl | exact cs1 | exact cs2 | exact cs3) ⟨Sub.refl _, Sub.refl _, trivial⟩ rfl rfl rfl rfl ?_)
        refine awp_cond rfl (fun hc3 => ?_) (fun _ => ?_)
        · exfalso
          simp at hc3
        repeat (first
          | refine awp_seq ?_
          | refine thenA_normal ?_
          | refine awp_block ?_
          | refine a_region ?_
          | refine awp_skip ?_
          | refine r_done ?_
          | (refine r_id ?_; first
            | refine r_ev tab_ok rfl rfl rfl rfl (by first | exact trivial | exact ⟨by omega, by omega⟩ | omega | exact ⟨by omega, by omega, by omega, by omega⟩ | exact Nat.le_of_ble_eq_true rfl) rfl ?_))
        refine a_loop (σ := {j : Nat // j ≤ l.length + 2}) (fun _ => []) (fun x => [(0, .sl 4 (l.map rwD)), (1, .val (.string n)), (2, .val (.string w)), (7, trA gs), (9, rfA gs), (10, .val (.int .i64 i)), (17, .val (.int .i64 ((x.1 : Int) - 1)))]) (fun x => l.length + 2 - x.1) ⟨0, Nat.zero_le _⟩ (fits_of rfl (by repeat' first | exact trivial | exact Sub.refl _ | exact rfl | apply And.intro)) ?_
        rintro ⟨j, hj⟩
        dsimp only
        repeat (first
          | refine awp_seq ?_
          | refine thenA_normal ?_
          | refine a_region ?_
          | refine r_done ?_
          | (refine r_id ?_; first
            | refine r_len tab_ok rfl rfl rfl rfl rfl rfl rfl ?_
            | refine r_ev tab_ok rfl rfl rfl rfl (by first | exact trivial | exact ⟨by omega, by omega⟩ | omega | exact ⟨by omega, by omega, by omega, by omega⟩ | exact Nat.le_of_ble_eq_true rfl) rfl ?_))
        refine awp_cond_p rfl (fun hlj => ?_) (fun hgj => ?_)
        · have cU := under_ok hg T.gd T.hl i ((j : Int) - 1)
          have cU2 := ref_under_ok T i ((j : Int) - 1) hg
          repeat (first
            | refine awp_seq ?_
            | refine thenA_normal ?_
            | refine awp_block ?_
            | refine a_region ?_
            | refine awp_skip ?_
            | refine r_done ?_
            | (refine r_id ?_; first
              | refine r_ev tab_ok rfl rfl rfl rfl (by first | exact trivial | exact ⟨by omega, by omega⟩ | omega | exact ⟨by omega, by omega, by omega, by omega⟩ | exact Nat.le_of_ble_eq_true rfl) rfl ?_)
            | refine r_call cU call13 rfl rfl ⟨Sub.refl _, Sub.refl _, Sub.refl _, trivial⟩ rfl rfl rfl rfl ?_
            | refine r_call cU2 call31 rfl rfl ⟨Sub.refl _, Sub.refl _, Sub.refl _, trivial⟩ rfl rfl rfl rfl ?_)
          refine awp_cond rfl (fun hc4 => ?_) (fun _ => ?_)
          · exfalso
            simp at hc4
          repeat (first
            | refine thenA_normal ?_
            | refine a_region ?_
            | refine awp_skip ?_
            | refine r_done ?_
            | (refine r_id ?_; first
              | refine r_ev tab_ok rfl rfl rfl rfl (by first | exact trivial | exact ⟨by omega, by omega⟩ | omega | exact ⟨by omega, by omega, by omega, by omega⟩ | exact Nat.le_of_ble_eq_true rfl) rfl ?_))
          exact ⟨⟨j + 1, by omega⟩, by dsimp only; omega, fits_of rfl ⟨Sub.refl _, Sub.refl _, Sub.refl _, Sub.refl _, Sub.refl _, Sub.refl _, Sub.of_eq (show AV.val (.int .i64 ((j : Int) - 1 + 1)) = .val (.int .i64 (((j + 1 : Nat) : Int) - 1)) by rw [show ((j : Int) - 1 + 1) = (((j + 1 : Nat) : Int) - 1) by omega]), trivial⟩⟩
        · repeat (first
            | refine thenA_normal ?_
            | refine a_region ?_
            | refine awp_exit ?_
            | refine r_done ?_
            | (refine r_id ?_; first
              | refine r_ev tab_ok rfl rfl rfl rfl (by first | exact trivial | exact ⟨by omega, by omega⟩ | omega | exact ⟨by omega, by omega, by omega, by omega⟩ | exact Nat.le_of_ble_eq_true rfl) rfl ?_))
          exact ⟨⟨k + 1, by omega⟩, by dsimp only; omega, fits_of rfl ⟨Sub.refl _, Sub.refl _, Sub.refl _, Sub.refl _, Sub.refl _, Sub.of_eq (show AV.val (.int .i64 (i + 1)) = .val (.int .i64 (((k + 1 : Nat) : Int) - 1)) by rw [show (i + 1 : Int) = (((k + 1 : Nat) : Int) - 1) by omega]), trivial⟩⟩
end Go.Proofs.Ytklodolkgdmhoaa
