/- The reference's tree: what it tells. -/
import Derived.Test.YtklodolkgdmhoaaWs
import Derived.Test.YtklodolkgdmhoaaWi
namespace Go.Proofs.Ytklodolkgdmhoaa
open Go Go.RowKit

def rG (n : Nt) : D := rwD n.r
theorem in_ok (gs : List Nt) (i : Int) (hg : gs.length ≤ 1099511627776) : PCalls Try.prog 40 [rfA gs, .val (.int .i64 i)] (.val (.bool (inB gs i))) := by
  refine p_start Try.func40 Try.ntmps40 rfl rfl rfl fun S w => ?_
  repeat (first
    | refine awp_seq ?_
    | refine thenA_normal ?_
    | refine a_region ?_
    | refine awp_ret ?_
    | refine r_done ?_
    | (refine r_id ?_; first
      | refine r_ev tab_ok rfl rfl rfl rfl (by first | exact trivial | exact ⟨by omega, by omega⟩ | omega | exact ⟨by omega, by omega, by omega, by omega⟩ | exact Nat.le_of_ble_eq_true rfl) rfl ?_
      | refine r_len_cnd tab_ok rfl rfl rfl rfl rfl rfl (by first | exact fun _ => rfl | exact cs1) rfl rfl rfl ?_
      | refine r_ev_cnd tab_ok rfl rfl rfl rfl rfl rfl (by first | exact fun _ => rfl | exact cs1 | exact cs2 | exact cs3) (by first | exact fun _ => trivial | (intro h; simp at h; first | exact ⟨by omega, by omega⟩ | omega)) rfl ?_
      | refine r_and rfl rfl rfl rfl rfl rfl rfl rfl ?_)
    | refine ret1 (by first | exact .inl rfl | exact .inr rfl) rfl rfl rfl ?_
    | refine r_by_cnd (fun _ => astep_nilCheck rfl rfl) rfl rfl rfl (by first | exact fun _ => rfl | exact cs1 | exact cs2 | exact cs3) rfl rfl rfl rfl ?_)
  exact Sub.refl _
theorem ref_attr_ok (gs : List Nt) (i : Int) (n : ByteArray) (hg : gs.length ≤ 1099511627776) (hk : ∀ n ∈ gs, n.r.attrs.length ≤ 1099511627776) : PCalls Try.prog 22 [rfA gs, .val (.int .i64 i), .val (.string n)] (.tup [.val (.string (attrF gs i n).1), .val (.bool (attrF gs i n).2)]) := by
  have hin := in_ok gs i hg
  refine p_start Try.func22 Try.ntmps22 rfl rfl rfl fun S w => ?_
  rw [attrF]
  cases hb : inB gs i with
  | false =>
    rw [hb] at hin
    repeat (first
      | refine awp_seq ?_
      | refine thenA_normal ?_
      | refine awp_block ?_
      | refine a_region ?_
      | refine r_done ?_
      | (refine r_id ?_; first
        | refine r_ev tab_ok rfl rfl rfl rfl (by first | exact trivial | exact ⟨by omega, by omega⟩ | omega | exact ⟨by omega, by omega, by omega, by omega⟩ | exact Nat.le_of_ble_eq_true rfl) rfl ?_))
    refine a_loop (σ := Unit) (fun _ => []) (fun x => [(0, rfA gs), (1, .val (.int .i64 i)), (8, .val (.int .i64 0))]) (fun _ => 0) () (fits_of rfl (by repeat' first | exact trivial | exact Sub.refl _ | exact rfl | apply And.intro)) ?_
    rintro ⟨⟩
    try dsimp only
    repeat (first
      | refine awp_seq ?_
      | refine thenA_normal ?_
      | refine a_region ?_
      | refine awp_ret ?_
      | refine awp_exit ?_
      | refine r_done ?_
      | (refine r_id ?_; first
        | refine r_ev tab_ok rfl rfl rfl rfl (by first | exact trivial | exact ⟨by omega, by omega⟩ | omega | exact ⟨by omega, by omega, by omega, by omega⟩ | exact Nat.le_of_ble_eq_true rfl) rfl ?_
        | refine r_ev_cnd tab_ok rfl rfl rfl rfl rfl rfl (by first | exact fun _ => rfl | exact cs1 | exact cs2 | exact cs3) (by first | exact fun _ => trivial | (intro h; simp at h; first | exact ⟨by omega, by omega⟩ | omega)) rfl ?_
        | refine r_pick_f rfl rfl rfl rfl rfl rfl rfl ?_
        | refine r_off rfl rfl rfl rfl rfl rfl ?_)
      | refine ret2 (by first | exact .inl rfl | exact .inr rfl) rfl rfl rfl rfl ?_ ?_
      | refine awp_cond_f rfl ?_
      | refine r_call hin call40 rfl rfl ⟨Sub.refl _, Sub.refl _, trivial⟩ rfl rfl rfl rfl ?_)
    all_goals exact Sub.refl _
  | true =>
    rw [hb] at hin
    obtain ⟨h0, h1, h2⟩ := inB_t hb
    rw [if_pos rfl]
    have hkl := hk _ (List.getElem_mem h2)
    have hgn := ntAt_get h2
    rw [hgn] at hkl
    repeat (first
      | refine awp_seq ?_
      | refine thenA_normal ?_
      | refine awp_block ?_
      | refine a_region ?_
      | refine r_done ?_
      | (refine r_id ?_; first
        | refine r_ev tab_ok rfl rfl rfl rfl (by first | exact trivial | exact ⟨by omega, by omega⟩ | omega | exact ⟨by omega, by omega, by omega, by omega⟩ | exact Nat.le_of_ble_eq_true rfl) rfl ?_))
    refine a_loop (σ := {j : Nat // j ≤ (ntAt gs i.toNat).r.attrs.length ∧ attrL ((ntAt gs i.toNat).r.attrs.drop j) n = attrL (ntAt gs i.toNat).r.attrs n}) (fun _ => []) (fun x => [(0, rfA gs), (1, .val (.int .i64 i)), (2, .val (.string n)), (8, .val (.int .i64 x.1))]) (fun x => (ntAt gs i.toNat).r.attrs.length - x.1) ⟨0, Nat.zero_le _, rfl⟩
      (fits_of rfl (by repeat' first | exact trivial | exact Sub.refl _ | exact rfl | apply And.intro)) ?_
    rintro ⟨j, hj, heq⟩
    dsimp only
    repeat (first
      | refine awp_seq ?_
      | refine thenA_normal ?_
      | refine a_region ?_
      | refine r_done ?_
      | (refine r_id ?_; first
        | refine r_ev tab_ok rfl rfl rfl rfl (by first | exact trivial | exact ⟨by omega, by omega⟩ | omega | exact ⟨by omega, by omega, by omega, by omega⟩ | exact Nat.le_of_ble_eq_true rfl) rfl ?_
        | refine r_len_cnd tab_ok rfl rfl rfl rfl rfl rfl (by first | exact fun _ => rfl | exact cs1) rfl rfl rfl ?_
        | refine r_ev_cnd tab_ok rfl rfl rfl rfl rfl rfl (by first | exact fun _ => rfl | exact cs1 | exact cs2 | exact cs3) (by first | exact fun _ => trivial | (intro h; simp at h; first | exact ⟨by omega, by omega⟩ | omega)) rfl ?_
        | refine r_idx_cnd tab_ok rfl rfl rfl rfl rfl rfl rfl (by first | exact fun _ => rfl | exact cs1 | exact cs2 | exact cs3) rfl rfl (by exact ⟨by omega, by omega⟩) rfl rfl ?_
        | refine r_and rfl rfl rfl rfl rfl rfl rfl rfl ?_)
      | refine r_by_cnd (fun _ => astep_nilCheck rfl rfl) rfl rfl rfl (by first | exact fun _ => rfl | exact cs1 | exact cs2 | exact cs3) rfl rfl rfl rfl ?_
      | refine r_call hin call40 rfl rfl ⟨Sub.refl _, Sub.refl _, trivial⟩ rfl rfl rfl rfl ?_)
    simp only [hgn]
    refine awp_cond rfl (fun hlt => ?_) (fun hge => ?_)
    · have hj' : j < (ntAt gs i.toNat).r.attrs.length := by simp at hlt; omega
      rw [List.drop_eq_getElem_cons hj', attrL] at heq
      repeat (first
        | refine awp_seq ?_
        | refine awp_block ?_
        | refine a_region ?_
        | refine awp_skip ?_
        | (refine r_id ?_; first
          | refine r_ev tab_ok rfl rfl rfl rfl (by first | exact trivial | exact ⟨by omega, by omega⟩ | omega | exact ⟨by omega, by omega, by omega, by omega⟩ | exact Nat.le_of_ble_eq_true rfl) rfl ?_
          | refine r_idx tab_ok rfl rfl rfl rfl rfl rfl rfl (by first | exact ⟨by omega, by omega⟩ | (simp; omega)) rfl rfl ?_
          | refine r_nilck rfl rfl rfl rfl rfl rfl rfl ?_))
      simp only [hgn]
      repeat (first
        | refine thenA_normal ?_
        | refine r_done ?_
        | (refine r_id ?_; first
          | refine r_ev tab_ok rfl rfl rfl rfl (by first | exact trivial | exact ⟨by omega, by omega⟩ | omega | exact ⟨by omega, by omega, by omega, by omega⟩ | exact Nat.le_of_ble_eq_true rfl) rfl ?_
          | refine r_idx tab_ok rfl rfl rfl rfl rfl rfl rfl (by first | exact ⟨by omega, by omega⟩ | (simp; omega)) rfl rfl ?_))
      simp only [Int.toNat_natCast]
      refine awp_cond_p rfl (fun hb => ?_) (fun hb => ?_)
      · rw [if_pos hb] at heq
        rw [← heq]
        repeat (first
          | refine awp_seq ?_
          | refine a_region ?_
          | (refine r_id ?_; first
            | refine r_ev tab_ok rfl rfl rfl rfl (by first | exact trivial | exact ⟨by omega, by omega⟩ | omega | exact ⟨by omega, by omega, by omega, by omega⟩ | exact Nat.le_of_ble_eq_true rfl) rfl ?_
            | refine r_idx tab_ok rfl rfl rfl rfl rfl rfl rfl (by first | exact ⟨by omega, by omega⟩ | (simp; omega)) rfl rfl ?_
            | refine r_nilck rfl rfl rfl rfl rfl rfl rfl ?_))
        simp only [hgn]
        repeat (first
          | refine thenA_normal ?_
          | refine awp_ret ?_
          | refine thenA_ret ?_
          | refine blockA_ret ?_
          | refine r_done ?_
          | (refine r_id ?_; first
            | refine r_ev tab_ok rfl rfl rfl rfl (by first | exact trivial | exact ⟨by omega, by omega⟩ | omega | exact ⟨by omega, by omega, by omega, by omega⟩ | exact Nat.le_of_ble_eq_true rfl) rfl ?_
            | refine r_idx tab_ok rfl rfl rfl rfl rfl rfl rfl (by first | exact ⟨by omega, by omega⟩ | (simp; omega)) rfl rfl ?_)
          | refine ret2 (by first | exact .inl rfl | exact .inr rfl) rfl rfl rfl rfl ?_ ?_)
        all_goals exact Sub.refl _
      · rw [if_neg hb] at heq
        repeat (first
          | refine thenA_normal ?_
          | refine a_region ?_
          | refine awp_skip ?_
          | refine r_done ?_
          | (refine r_id ?_; first
            | refine r_ev tab_ok rfl rfl rfl rfl (by first | exact trivial | exact ⟨by omega, by omega⟩ | omega | exact ⟨by omega, by omega, by omega, by omega⟩ | exact Nat.le_of_ble_eq_true rfl) rfl ?_))
        exact ⟨⟨j + 1, by omega, heq⟩, by dsimp only; omega, fits_of rfl (by repeat' first | exact trivial | exact Sub.refl _ | exact rfl | apply And.intro)⟩
    · have : j = (ntAt gs i.toNat).r.attrs.length := by simp at hge; omega
      subst this
      rw [List.drop_length, attrL] at heq
      rw [← heq]
      repeat (first
        | refine awp_seq ?_
        | refine thenA_normal ?_
        | refine a_region ?_
        | refine awp_ret ?_
        | refine awp_exit ?_
        | refine r_done ?_
        | (refine r_id ?_; first
          | refine r_ev tab_ok rfl rfl rfl rfl (by first | exact trivial | exact ⟨by omega, by omega⟩ | omega | exact ⟨by omega, by omega, by omega, by omega⟩ | exact Nat.le_of_ble_eq_true rfl) rfl ?_)
        | refine ret2 (by first | exact .inl rfl | exact .inr rfl) rfl rfl rfl rfl ?_ ?_)
      all_goals exact Sub.refl _
def kidQ (gs : List Nt) (i : Int) (tags : Bool) (k : Nat) : Bool := decide ((ntAt gs k).r.parent = i) && (!tags || !decide ((ntAt gs k).r.tag = emS))
def kidsR (gs : List Nt) (i : Int) (tags : Bool) : List Nat := if inB gs i then (List.range gs.length).filter (fun k => decide (k ≠ 0) && kidQ gs i tags k) else []
theorem ref_kids_ok (gs : List Nt) (i : Int) (tags : Bool) (hg : gs.length ≤ 1099511627776) : PCalls Try.prog 25 [rfA gs, .val (.int .i64 i), .val (.bool tags)] (.sl 1 ((kidsR gs i tags).map nD)) := by
  have hin := in_ok gs i hg
  refine p_start Try.func25 Try.ntmps25 rfl rfl rfl fun S w => ?_
  rw [kidsR]
  have hgm : (gs.map fun n => rwD n.r).length = gs.length := List.length_map _
  cases hb : inB gs i with
  | false =>
    rw [hb] at hin
    repeat (first
      | refine awp_seq ?_
      | refine thenA_normal ?_
      | refine awp_block ?_
      | refine a_region ?_
      | refine r_done ?_
      | (refine r_id ?_; first
        | refine r_ev tab_ok rfl rfl rfl rfl (by first | exact trivial | exact ⟨by omega, by omega⟩ | omega | exact ⟨by omega, by omega, by omega, by omega⟩ | exact Nat.le_of_ble_eq_true rfl) rfl ?_))
    refine a_loop (σ := Unit) (fun _ => []) (fun x => [(0, rfA gs), (1, .val (.int .i64 i)), (7, .val (.slice none 0 0)), (8, .val (.int .i64 1))]) (fun _ => 0) () (fits_of rfl (by repeat' first | exact trivial | exact Sub.refl _ | exact rfl | apply And.intro)) ?_
    rintro ⟨⟩
    try dsimp only
    repeat (first
      | refine awp_seq ?_
      | refine thenA_normal ?_
      | refine a_region ?_
      | refine r_done ?_
      | (refine r_id ?_; first
        | refine r_len tab_ok rfl rfl rfl rfl rfl rfl rfl ?_
        | refine r_ev tab_ok rfl rfl rfl rfl (by first | exact trivial | exact ⟨by omega, by omega⟩ | omega | exact ⟨by omega, by omega, by omega, by omega⟩ | exact Nat.le_of_ble_eq_true rfl) rfl ?_
        | refine r_ev_cnd tab_ok rfl rfl rfl rfl rfl rfl (by first | exact fun _ => rfl | exact cs1 | exact cs2 | exact cs3) (by first | exact fun _ => trivial | (intro h; simp at h; first | exact ⟨by omega, by omega⟩ | omega)) rfl ?_
        | refine r_and rfl rfl rfl rfl rfl rfl rfl rfl ?_
        | refine r_nilck rfl rfl rfl rfl rfl rfl rfl ?_)
      | refine r_call_cnd (fun _ => hin) call40 rfl rfl rfl rfl (by first | exact fun _ => rfl | exact cs1 | exact cs2 | exact cs3) ⟨Sub.refl _, Sub.refl _, trivial⟩ rfl rfl rfl rfl ?_)
    refine awp_cond rfl (fun hlt => ?_) (fun hge => ?_)
    · simp at hlt
    repeat (first
      | refine awp_seq ?_
      | refine thenA_normal ?_
      | refine a_region ?_
      | refine awp_ret ?_
      | refine awp_exit ?_
      | refine r_done ?_
      | (refine r_id ?_; first
        | refine r_ev tab_ok rfl rfl rfl rfl (by first | exact trivial | exact ⟨by omega, by omega⟩ | omega | exact ⟨by omega, by omega, by omega, by omega⟩ | exact Nat.le_of_ble_eq_true rfl) rfl ?_)
      | refine ret1 (by first | exact .inl rfl | exact .inr rfl) rfl rfl rfl ?_)
    all_goals exact Sub.nil _
  | true =>
    rw [hb] at hin
    obtain ⟨h0, h1, h2⟩ := inB_t hb
    rw [if_pos rfl]
    repeat (first
      | refine awp_seq ?_
      | refine thenA_normal ?_
      | refine awp_block ?_
      | refine a_region ?_
      | refine r_done ?_
      | (refine r_id ?_; first
        | refine r_ev tab_ok rfl rfl rfl rfl (by first | exact trivial | exact ⟨by omega, by omega⟩ | omega | exact ⟨by omega, by omega, by omega, by omega⟩ | exact Nat.le_of_ble_eq_true rfl) rfl ?_))
    refine a_loop (σ := {k : Nat // 1 ≤ k ∧ k ≤ gs.length}) (fun x => [.row 0 3 1 (((List.range x.1).filter (fun k => decide (k ≠ 0) && kidQ gs i tags k)).map nD)]) (fun x => [(0, rfA gs), (1, .val (.int .i64 i)), (2, .val (.bool tags)), (7, .row 0 0), (8, .val (.int .i64 x.1))]) (fun x => gs.length - x.1) ⟨1, Nat.le_refl _, by omega⟩
      (fits_conv (by repeat' first | exact trivial | exact rfl | (rw [List.map_append]; first | done | rfl) | exact c_sub rfl (Sub.refl _) rfl | exact c_nil rfl rfl | exact c_thaw rfl rfl rfl | exact c_row rfl rfl rfl | exact c_row rfl rfl (by rw [List.map_append]; first | done | rfl) | exact c_ptr rfl rfl rfl rfl | exact Or.inl ⟨c_sub rfl (Sub.refl _) rfl, c_ptr rfl rfl rfl rfl⟩ | exact c_alt rfl rfl rfl rfl | exact c_ro rfl rfl | exact c_eo rfl rfl | exact c_sub rfl (Sub.altl _ _) rfl | exact c_sub rfl (Sub.nil _) rfl | refine ⟨_, _, rfl, ?_, ?_⟩ | apply And.intro) (by repeat' first | exact trivial | exact rfl | (rw [List.map_append]; first | done | rfl) | exact c_sub rfl (Sub.refl _) rfl | exact c_nil rfl rfl | exact c_thaw rfl rfl rfl | exact c_row rfl rfl rfl | exact c_row rfl rfl (by rw [List.map_append]; first | done | rfl) | exact c_ptr rfl rfl rfl rfl | exact Or.inl ⟨c_sub rfl (Sub.refl _) rfl, c_ptr rfl rfl rfl rfl⟩ | exact c_alt rfl rfl rfl rfl | exact c_ro rfl rfl | exact c_eo rfl rfl | exact c_sub rfl (Sub.altl _ _) rfl | exact c_sub rfl (Sub.nil _) rfl | refine ⟨_, _, rfl, ?_, ?_⟩ | apply And.intro)) ?_
    rintro ⟨k, hk1, hk⟩
    dsimp only
    have hfl : ((List.range k).filter (fun k => decide (k ≠ 0) && kidQ gs i tags k)).length ≤ k := by
      have := List.length_filter_le (fun k => decide (k ≠ 0) && kidQ gs i tags k) (List.range k)
      rw [List.length_range] at this
      exact this
    have hst := range_filter_succ (fun k => decide (k ≠ 0) && kidQ gs i tags k) k
    have hend : k = gs.length → (List.range k).filter (fun k => decide (k ≠ 0) && kidQ gs i tags k) = (List.range gs.length).filter (fun k => decide (k ≠ 0) && kidQ gs i tags k) := fun h => by rw [h]
    obtain ⟨X, hX⟩ : ∃ X, X = (List.range k).filter (fun k => decide (k ≠ 0) && kidQ gs i tags k) := ⟨_, rfl⟩
    rw [← hX] at hfl hst hend ⊢
    have hXm : (X.map nD).length = X.length := List.length_map _
    repeat (first
      | refine awp_seq ?_
      | refine thenA_normal ?_
      | refine a_region ?_
      | refine r_done ?_
      | (refine r_id ?_; first
        | refine r_len tab_ok rfl rfl rfl rfl rfl rfl rfl ?_
        | refine r_ev tab_ok rfl rfl rfl rfl (by first | exact trivial | exact ⟨by omega, by omega⟩ | omega | exact ⟨by omega, by omega, by omega, by omega⟩ | exact Nat.le_of_ble_eq_true rfl) rfl ?_
        | refine r_ev_cnd tab_ok rfl rfl rfl rfl rfl rfl (by first | exact fun _ => rfl | exact cs1 | exact cs2 | exact cs3) (by first | exact fun _ => trivial | (intro h; simp at h; first | exact ⟨by omega, by omega⟩ | omega)) rfl ?_
        | refine r_and rfl rfl rfl rfl rfl rfl rfl rfl ?_
        | refine r_nilck rfl rfl rfl rfl rfl rfl rfl ?_)
      | refine r_call_cnd (fun _ => hin) call40 rfl rfl rfl rfl (by first | exact fun _ => rfl | exact cs1 | exact cs2 | exact cs3) ⟨Sub.refl _, Sub.refl _, trivial⟩ rfl rfl rfl rfl ?_)
    refine awp_cond rfl (fun hlt => ?_) (fun hge => ?_)
    · have hk' : k < gs.length := by simp at hlt; omega
      have hgn := ntAt_get hk'
      have hne : decide (k ≠ 0) = true := decide_eq_true (by omega)
      simp only [hne, Bool.true_and] at hst
      repeat (first
        | refine awp_seq ?_
        | refine thenA_normal ?_
        | refine awp_block ?_
        | refine a_region ?_
        | refine awp_skip ?_
        | refine r_done ?_
        | (refine r_id ?_; first
          | refine r_ev tab_ok rfl rfl rfl rfl (by first | exact trivial | exact ⟨by omega, by omega⟩ | omega | exact ⟨by omega, by omega, by omega, by omega⟩ | exact Nat.le_of_ble_eq_true rfl) rfl ?_
          | refine r_idx tab_ok rfl rfl rfl rfl rfl rfl rfl (by first | exact ⟨by omega, by omega⟩ | (simp; omega)) rfl rfl ?_
          | refine r_ev_cnd tab_ok rfl rfl rfl rfl rfl rfl (by first | exact fun _ => rfl | exact cs1 | exact cs2 | exact cs3) (by first | exact fun _ => trivial | (intro h; simp at h; first | exact ⟨by omega, by omega⟩ | omega)) rfl ?_
          | refine r_idx_cnd tab_ok rfl rfl rfl rfl rfl rfl rfl (by first | exact fun _ => rfl | exact cs1 | exact cs2 | exact cs3) rfl rfl (by exact ⟨by omega, by omega⟩) rfl rfl ?_
          | refine r_or_cnd rfl rfl rfl rfl rfl rfl rfl rfl rfl rfl ?_
          | refine r_and rfl rfl rfl rfl rfl rfl rfl rfl ?_
          | refine r_nilck rfl rfl rfl rfl rfl rfl rfl ?_)
        | refine r_by_cnd (fun _ => astep_nilCheck rfl rfl) rfl rfl rfl (by first | exact fun _ => rfl | exact cs1 | exact cs2 | exact cs3) rfl rfl rfl rfl ?_)
      simp only [Int.toNat_natCast, hgn]
      try simp only [Int.toNat_natCast, hgn]
      refine awp_cond rfl (fun hc => ?_) (fun hc => ?_)
      · have hq : kidQ gs i tags k = true := hc
        rw [hq, if_pos rfl] at hst
        repeat (first
          | refine thenA_normal ?_
          | refine a_region ?_
          | refine r_done ?_
          | (refine r_id ?_; first
            | refine r_ev tab_ok rfl rfl rfl rfl (by first | exact trivial | exact ⟨by omega, by omega⟩ | omega | exact ⟨by omega, by omega, by omega, by omega⟩ | exact Nat.le_of_ble_eq_true rfl) rfl ?_
            | refine r_built tab_ok rfl rfl rfl rfl rfl rfl rfl rfl rfl ?_
            | refine r_append tab_ok rfl rfl rfl rfl rfl rfl rfl rfl rfl (by first | omega | (simp; omega)) rfl ?_))
        refine ⟨⟨k + 1, by omega, by omega⟩, by dsimp only; omega, ?_⟩
        dsimp only
        rw [hst, List.map_append]
        exact fits_conv (by repeat' first | exact trivial | exact rfl | (rw [List.map_append]; first | done | rfl) | exact c_sub rfl (Sub.refl _) rfl | exact c_nil rfl rfl | exact c_thaw rfl rfl rfl | exact c_row rfl rfl rfl | exact c_row rfl rfl (by rw [List.map_append]; first | done | rfl) | exact c_ptr rfl rfl rfl rfl | exact Or.inl ⟨c_sub rfl (Sub.refl _) rfl, c_ptr rfl rfl rfl rfl⟩ | exact c_alt rfl rfl rfl rfl | exact c_ro rfl rfl | exact c_eo rfl rfl | exact c_sub rfl (Sub.altl _ _) rfl | exact c_sub rfl (Sub.nil _) rfl | refine ⟨_, _, rfl, ?_, ?_⟩ | apply And.intro) (by repeat' first | exact trivial | exact rfl | (rw [List.map_append]; first | done | rfl) | exact c_sub rfl (Sub.refl _) rfl | exact c_nil rfl rfl | exact c_thaw rfl rfl rfl | exact c_row rfl rfl rfl | exact c_row rfl rfl (by rw [List.map_append]; first | done | rfl) | exact c_ptr rfl rfl rfl rfl | exact Or.inl ⟨c_sub rfl (Sub.refl _) rfl, c_ptr rfl rfl rfl rfl⟩ | exact c_alt rfl rfl rfl rfl | exact c_ro rfl rfl | exact c_eo rfl rfl | exact c_sub rfl (Sub.altl _ _) rfl | exact c_sub rfl (Sub.nil _) rfl | refine ⟨_, _, rfl, ?_, ?_⟩ | apply And.intro)
      · have hq : kidQ gs i tags k = false := hc
        rw [hq, if_neg Bool.false_ne_true, List.append_nil] at hst
        repeat (first
          | refine thenA_normal ?_
          | refine a_region ?_
          | refine awp_skip ?_
          | refine r_done ?_
          | (refine r_id ?_; first
            | refine r_ev tab_ok rfl rfl rfl rfl (by first | exact trivial | exact ⟨by omega, by omega⟩ | omega | exact ⟨by omega, by omega, by omega, by omega⟩ | exact Nat.le_of_ble_eq_true rfl) rfl ?_))
        refine ⟨⟨k + 1, by omega, by omega⟩, by dsimp only; omega, ?_⟩
        dsimp only
        rw [hst]
        exact fits_conv (by repeat' first | exact trivial | exact rfl | (rw [List.map_append]; first | done | rfl) | exact c_sub rfl (Sub.refl _) rfl | exact c_nil rfl rfl | exact c_thaw rfl rfl rfl | exact c_row rfl rfl rfl | exact c_row rfl rfl (by rw [List.map_append]; first | done | rfl) | exact c_ptr rfl rfl rfl rfl | exact Or.inl ⟨c_sub rfl (Sub.refl _) rfl, c_ptr rfl rfl rfl rfl⟩ | exact c_alt rfl rfl rfl rfl | exact c_ro rfl rfl | exact c_eo rfl rfl | exact c_sub rfl (Sub.altl _ _) rfl | exact c_sub rfl (Sub.nil _) rfl | refine ⟨_, _, rfl, ?_, ?_⟩ | apply And.intro) (by repeat' first | exact trivial | exact rfl | (rw [List.map_append]; first | done | rfl) | exact c_sub rfl (Sub.refl _) rfl | exact c_nil rfl rfl | exact c_thaw rfl rfl rfl | exact c_row rfl rfl rfl | exact c_row rfl rfl (by rw [List.map_append]; first | done | rfl) | exact c_ptr rfl rfl rfl rfl | exact Or.inl ⟨c_sub rfl (Sub.refl _) rfl, c_ptr rfl rfl rfl rfl⟩ | exact c_alt rfl rfl rfl rfl | exact c_ro rfl rfl | exact c_eo rfl rfl | exact c_sub rfl (Sub.altl _ _) rfl | exact c_sub rfl (Sub.nil _) rfl | refine ⟨_, _, rfl, ?_, ?_⟩ | apply And.intro)
    · have : k = gs.length := by simp at hge; omega
      rw [← hend this]
      repeat (first
        | refine awp_seq ?_
        | refine thenA_normal ?_
        | refine a_region ?_
        | refine awp_ret ?_
        | refine awp_exit ?_
        | refine r_done ?_
        | (refine r_id ?_; first
          | refine r_ev tab_ok rfl rfl rfl rfl (by first | exact trivial | exact ⟨by omega, by omega⟩ | omega | exact ⟨by omega, by omega, by omega, by omega⟩ | exact Nat.le_of_ble_eq_true rfl) rfl ?_)
        | refine ret1_row (by first | exact .inl rfl | exact .inr rfl) rfl rfl rfl ?_)
      all_goals exact Sub.refl _
structure Tied (l : List Rw) (gs : List Nt) : Prop where
  gd : Good l gs
  hl : gs.length = l.length
  p0 : 0 < l.length ∧ (rwAt l 0).parent = -1
theorem tied_new {l : List Rw} {gs : List Nt} (h : newF l = some gs) : Tied l gs := by
  obtain ⟨h1, h2, h3⟩ := good_new h
  simp only [okL, Bool.and_eq_true, decide_eq_true_eq] at h3
  exact ⟨h1, h2, by omega, h3.1.2⟩
theorem Tied.par {l : List Rw} {gs : List Nt} (h : Tied l gs) {i : Nat} (hi : i < gs.length) : (ntAt gs i).r.parent = (rwAt l i).parent := by rw [h.gd.r i hi]; rfl
theorem Tied.up {l : List Rw} {gs : List Nt} (h : Tied l gs) {i : Nat} (hi : i < gs.length) : -1 ≤ (ntAt gs i).r.parent ∧ (ntAt gs i).r.parent < i ∧ depF gs (i : Nat) = depF gs (ntAt gs i).r.parent + 1 := by
  rw [h.par hi]
  have hdi : depF gs (i : Nat) = (ntAt gs i).depth := depF_eq h.gd h.hl (by rw [← h.hl]; exact hi)
  rcases Nat.eq_zero_or_pos i with h0 | h0
  · subst h0
    rw [h.p0.2, hdi, h.gd.dep0 hi]
    refine ⟨by omega, by omega, ?_⟩
    rw [depF, show inB gs (-1) = false by simp [inB]]; rfl
  · obtain ⟨p1, p2, _⟩ := h.gd.par i h0 hi
    refine ⟨by omega, p2, ?_⟩
    obtain ⟨p, hp⟩ : ∃ p : Nat, (rwAt l i).parent = p := ⟨(rwAt l i).parent.toNat, by omega⟩
    have hd := h.gd.dep i h0 hi
    rw [hp, Int.toNat_natCast] at hd
    rw [hdi, hd, hp, depF_eq h.gd h.hl (by rw [← h.hl]; omega)]
    rfl
theorem Tied.dle {l : List Rw} {gs : List Nt} (h : Tied l gs) (i : Int) : 0 ≤ depF gs i ∧ depF gs i ≤ 64 := by
  rw [depF]
  cases hb : inB gs i with
  | false => simp
  | true =>
    obtain ⟨h0, h1, h2⟩ := inB_t hb
    have := h.gd.dle _ h2
    simp; omega
theorem ref_depth_ok {l : List Rw} {gs : List Nt} (h : Tied l gs) (i : Int) (hg : gs.length ≤ 1099511627776) : PCalls Try.prog 28 [rfA gs, .val (.int .i64 i)] (.val (.int .i64 (depF gs i))) := by
  refine p_start Try.func28 Try.ntmps28 rfl rfl rfl fun S w => ?_
  have hgm : (gs.map fun n => rwD n.r).length = gs.length := List.length_map _
  repeat (first
    | refine awp_seq ?_
    | refine awp_block ?_
    | refine a_region ?_
    | refine r_done ?_
    | (refine r_id ?_; first
      | refine r_ev tab_ok rfl rfl rfl rfl (by first | exact trivial | exact ⟨by omega, by omega⟩ | omega | exact ⟨by omega, by omega, by omega, by omega⟩ | exact Nat.le_of_ble_eq_true rfl) rfl ?_))
  refine a_loop (σ := {x : Int × Nat // x.2 + depF gs x.1 = depF gs i}) (fun _ => []) (fun x => [(0, rfA gs), (1, .val (.int .i64 x.1.1)), (5, .val (.int .i64 x.1.2))]) (fun x => (x.1.1 + 1).toNat) ⟨(i, 0), by simp⟩ (fits_of rfl (by repeat' first | exact trivial | exact Sub.refl _ | exact rfl | apply And.intro)) ?_
  rintro ⟨⟨j, n⟩, heq⟩
  dsimp only at heq ⊢
  have hin := in_ok gs j hg
  have d1 := h.dle j
  have d2 := h.dle i
  cases hb : inB gs j with
  | false =>
    rw [hb] at hin
    repeat (first
      | refine awp_seq ?_
      | refine thenA_normal ?_
      | refine a_region ?_
      | refine awp_ret ?_
      | refine awp_exit ?_
      | refine r_done ?_
      | (refine r_id ?_; first
        | refine r_ev tab_ok rfl rfl rfl rfl (by first | exact trivial | exact ⟨by omega, by omega⟩ | omega | exact ⟨by omega, by omega, by omega, by omega⟩ | exact Nat.le_of_ble_eq_true rfl) rfl ?_)
      | refine ret1 (by first | exact .inl rfl | exact .inr rfl) rfl rfl rfl ?_
      | refine awp_cond_f rfl ?_
      | refine r_call hin call40 rfl rfl ⟨Sub.refl _, Sub.refl _, trivial⟩ rfl rfl rfl rfl ?_)
    have : depF gs j = 0 := by rw [depF, hb]; rfl
    exact Sub.of_eq (by rw [← heq, this, Int.add_zero])
  | true =>
    rw [hb] at hin
    obtain ⟨h0, h1, h2⟩ := inB_t hb
    obtain ⟨u1, u2, u3⟩ := h.up h2
    have hgn := ntAt_get h2
    rw [Int.toNat_of_nonneg h0] at u3
    repeat (first
      | refine awp_seq ?_
      | refine thenA_normal ?_
      | refine awp_block ?_
      | refine a_region ?_
      | refine blockA_normal ?_
      | refine awp_skip ?_
      | refine r_done ?_
      | (refine r_id ?_; first
        | refine r_ev tab_ok rfl rfl rfl rfl (by first | exact trivial | exact ⟨by omega, by omega⟩ | omega | exact ⟨by omega, by omega, by omega, by omega⟩ | exact Nat.le_of_ble_eq_true rfl) rfl ?_
        | refine r_idx tab_ok rfl rfl rfl rfl rfl rfl rfl (by first | exact ⟨by omega, by omega⟩ | (simp; omega)) rfl rfl ?_
        | refine r_nilck rfl rfl rfl rfl rfl rfl rfl ?_)
      | refine awp_cond_t rfl ?_
      | refine r_call hin call40 rfl rfl ⟨Sub.refl _, Sub.refl _, trivial⟩ rfl rfl rfl rfl ?_)
    simp only [hgn]
    exact ⟨⟨((ntAt gs j.toNat).r.parent, n + 1), by dsimp only; omega⟩, by dsimp only; omega, fits_of rfl (by repeat' first | exact trivial | exact Sub.refl _ | exact rfl | apply And.intro)⟩
def befQ (gs : List Nt) (p : Int) (k : Nat) : Bool := decide ((ntAt gs k).r.parent = p) && !decide ((ntAt gs k).r.tag = emS)
def befR (gs : List Nt) (i : Int) : List Nat := if inB gs i then ((List.range i.toNat).filter fun k => decide (0 < k) && befQ gs (ntAt gs i.toNat).r.parent k).reverse else []
theorem range_from {p : Nat → Bool} {k : Nat} : ∀ n, k < n → (List.range n).filter (fun j => decide (k - 1 < j) && p j) = (if 0 < k ∧ p k = true then [k] else []) ++ (List.range n).filter (fun j => decide (k < j) && p j)
  | 0, h => by omega
  | n + 1, h => by
    rw [range_filter_succ, range_filter_succ]
    rcases Nat.lt_succ_iff_lt_or_eq.1 h with h1 | h1
    · rw [range_from n h1, List.append_assoc]
      congr 2
      rw [decide_eq_true (show k - 1 < n by omega), decide_eq_true h1]
    · subst h1
      rw [range_filter_none (p := fun j => decide (k < j) && p j) (fun j hj => by rw [decide_eq_false (by omega)]; rfl), decide_eq_false (Nat.lt_irrefl k)]
      rcases Nat.eq_zero_or_pos k with h0 | h0
      · subst h0; simp
      · rw [range_filter_none (fun j hj => by rw [decide_eq_false (by omega)]; rfl), decide_eq_true (by omega)]
        simp [h0]
theorem ref_before_ok {l : List Rw} {gs : List Nt} (h : Tied l gs) (i : Int) (hi : -1 ≤ i ∧ i ≤ 1099511627776) (hg : gs.length ≤ 1099511627776) : PCalls Try.prog 30 [rfA gs, .val (.int .i64 i)] (.sl 1 ((befR gs i).map nD)) := by
  have hin := in_ok gs i hg
  refine p_start Try.func30 Try.ntmps30 rfl rfl rfl fun S w => ?_
  have hgm : (gs.map fun n => rwD n.r).length = gs.length := List.length_map _
  rw [befR]
  cases hb : inB gs i with
  | false =>
    rw [hb] at hin
    repeat (first
      | refine awp_seq ?_
      | refine thenA_normal ?_
      | refine awp_block ?_
      | refine a_region ?_
      | refine r_done ?_
      | (refine r_id ?_; first
        | refine r_ev tab_ok rfl rfl rfl rfl (by first | exact trivial | exact ⟨by omega, by omega⟩ | omega | exact ⟨by omega, by omega, by omega, by omega⟩ | exact Nat.le_of_ble_eq_true rfl) rfl ?_))
    refine a_loop (σ := Unit) (fun _ => []) (fun x => [(0, rfA gs), (1, .val (.int .i64 i)), (5, .val (.slice none 0 0)), (6, .val (.int .i64 (i - 1)))]) (fun _ => 0) () (fits_of rfl (by repeat' first | exact trivial | exact Sub.refl _ | exact rfl | apply And.intro)) ?_
    rintro ⟨⟩
    try dsimp only
    repeat (first
      | refine awp_seq ?_
      | refine thenA_normal ?_
      | refine a_region ?_
      | refine r_done ?_
      | (refine r_id ?_; first
        | refine r_ev tab_ok rfl rfl rfl rfl (by first | exact trivial | exact ⟨by omega, by omega⟩ | omega | exact ⟨by omega, by omega, by omega, by omega⟩ | exact Nat.le_of_ble_eq_true rfl) rfl ?_
        | refine r_ev_cnd tab_ok rfl rfl rfl rfl rfl rfl (by first | exact fun _ => rfl | exact cs1 | exact cs2 | exact cs3) (by first | exact fun _ => trivial | (intro h; simp at h; first | exact ⟨by omega, by omega⟩ | omega)) rfl ?_
        | refine r_and rfl rfl rfl rfl rfl rfl rfl rfl ?_)
      | refine r_call_cnd (fun _ => hin) call40 rfl rfl rfl rfl (by first | exact fun _ => rfl | exact cs1 | exact cs2 | exact cs3) ⟨Sub.refl _, Sub.refl _, trivial⟩ rfl rfl rfl rfl ?_)
    refine awp_cond rfl (fun hlt => ?_) (fun hge => ?_)
    · simp at hlt
    repeat (first
      | refine awp_seq ?_
      | refine thenA_normal ?_
      | refine a_region ?_
      | refine awp_ret ?_
      | refine awp_exit ?_
      | refine r_done ?_
      | (refine r_id ?_; first
        | refine r_ev tab_ok rfl rfl rfl rfl (by first | exact trivial | exact ⟨by omega, by omega⟩ | omega | exact ⟨by omega, by omega, by omega, by omega⟩ | exact Nat.le_of_ble_eq_true rfl) rfl ?_)
      | refine ret1 (by first | exact .inl rfl | exact .inr rfl) rfl rfl rfl ?_)
    all_goals exact Sub.nil _
  | true =>
    rw [hb] at hin
    obtain ⟨h0, h1, h2⟩ := inB_t hb
    have hgi := ntAt_get h2
    rw [if_pos rfl]
    repeat (first
      | refine awp_seq ?_
      | refine thenA_normal ?_
      | refine awp_block ?_
      | refine a_region ?_
      | refine r_done ?_
      | (refine r_id ?_; first
        | refine r_ev tab_ok rfl rfl rfl rfl (by first | exact trivial | exact ⟨by omega, by omega⟩ | omega | exact ⟨by omega, by omega, by omega, by omega⟩ | exact Nat.le_of_ble_eq_true rfl) rfl ?_))
    obtain ⟨P, hP⟩ : ∃ P, P = befQ gs (ntAt gs i.toNat).r.parent := ⟨_, rfl⟩
    rw [← hP]
    obtain ⟨m, rfl⟩ : ∃ m : Nat, i = m := ⟨i.toNat, by omega⟩
    simp only [Int.toNat_natCast] at *
    refine a_loop (σ := {k : Int // (0 ≤ k ∨ (m = 0 ∧ k = -1)) ∧ k < m}) (fun x => [.row 0 3 1 ((((List.range m).filter (fun j : Nat => decide (x.1 < (j : Int)) && P j)).reverse).map nD)]) (fun x => [(0, rfA gs), (1, .val (.int .i64 m)), (5, .row 0 0), (6, .val (.int .i64 x.1))]) (fun x => (x.1 + 1).toNat) ⟨(m : Int) - 1, by omega, by omega⟩ ?_ ?_
    · rw [range_filter_none (fun j hj => by rw [decide_eq_false (by dsimp only; omega)]; rfl)]
      exact fits_conv (by repeat' first | exact trivial | exact rfl | (rw [List.map_append]; first | done | rfl) | exact c_sub rfl (Sub.refl _) rfl | exact c_nil rfl rfl | exact c_thaw rfl rfl rfl | exact c_row rfl rfl rfl | exact c_row rfl rfl (by rw [List.map_append]; first | done | rfl) | exact c_ptr rfl rfl rfl rfl | exact Or.inl ⟨c_sub rfl (Sub.refl _) rfl, c_ptr rfl rfl rfl rfl⟩ | exact c_alt rfl rfl rfl rfl | exact c_ro rfl rfl | exact c_eo rfl rfl | exact c_sub rfl (Sub.altl _ _) rfl | exact c_sub rfl (Sub.nil _) rfl | refine ⟨_, _, rfl, ?_, ?_⟩ | apply And.intro) (by repeat' first | exact trivial | exact rfl | (rw [List.map_append]; first | done | rfl) | exact c_sub rfl (Sub.refl _) rfl | exact c_nil rfl rfl | exact c_thaw rfl rfl rfl | exact c_row rfl rfl rfl | exact c_row rfl rfl (by rw [List.map_append]; first | done | rfl) | exact c_ptr rfl rfl rfl rfl | exact Or.inl ⟨c_sub rfl (Sub.refl _) rfl, c_ptr rfl rfl rfl rfl⟩ | exact c_alt rfl rfl rfl rfl | exact c_ro rfl rfl | exact c_eo rfl rfl | exact c_sub rfl (Sub.altl _ _) rfl | exact c_sub rfl (Sub.nil _) rfl | refine ⟨_, _, rfl, ?_, ?_⟩ | apply And.intro)
    rintro ⟨k, hk1, hk⟩
    dsimp only
    have hkb : -1 ≤ k := by omega
    have hfl : (((List.range m).filter (fun j : Nat => decide (k < (j : Int)) && P j)).reverse).length ≤ m := by
      rw [List.length_reverse]
      have := List.length_filter_le (fun j : Nat => decide (k < (j : Int)) && P j) (List.range m)
      rw [List.length_range] at this
      exact this
    repeat (first
      | refine awp_seq ?_
      | refine thenA_normal ?_
      | refine a_region ?_
      | refine r_done ?_
      | (refine r_id ?_; first
        | refine r_ev tab_ok rfl rfl rfl rfl (by first | exact trivial | exact ⟨by omega, by omega⟩ | omega | exact ⟨by omega, by omega, by omega, by omega⟩ | exact Nat.le_of_ble_eq_true rfl) rfl ?_
        | refine r_ev_cnd tab_ok rfl rfl rfl rfl rfl rfl (by first | exact fun _ => rfl | exact cs1 | exact cs2 | exact cs3) (by first | exact fun _ => trivial | (intro h; simp at h; first | exact ⟨by omega, by omega⟩ | omega)) rfl ?_
        | refine r_and rfl rfl rfl rfl rfl rfl rfl rfl ?_)
      | refine r_call_cnd (fun _ => hin) call40 rfl rfl rfl rfl (by first | exact fun _ => rfl | exact cs1 | exact cs2 | exact cs3) ⟨Sub.refl _, Sub.refl _, trivial⟩ rfl rfl rfl rfl ?_)
    refine awp_cond rfl (fun hlt => ?_) (fun hge => ?_)
    · have hk0 : 0 < k := by simp at hlt; omega
      obtain ⟨q, rfl⟩ : ∃ q : Nat, k = q := ⟨k.toNat, by omega⟩
      have hq : q < gs.length := by omega
      have hgn := ntAt_get hq
      have hst := range_from (p := P) (k := q) m (by omega)
      have e1 : ∀ j : Nat, decide ((q : Int) - 1 < j) = decide (q - 1 < j) := fun j => decide_eq_decide.2 (by omega)
      have e2 : ∀ j : Nat, decide ((q : Int) < j) = decide (q < j) := fun j => decide_eq_decide.2 (by omega)
      simp only [e2] at hfl ⊢
      obtain ⟨X, hX⟩ : ∃ X, X = (List.range m).filter (fun j => decide (q < j) && P j) := ⟨_, rfl⟩
      rw [← hX] at hfl hst ⊢
      have hXm : (X.reverse.map nD).length = X.reverse.length := List.length_map _
      have hXl : X.length ≤ m := by rwa [List.length_reverse] at hfl
      repeat (first
        | refine awp_seq ?_
        | refine thenA_normal ?_
        | refine awp_block ?_
        | refine a_draw1 mixed_ok (by kernel_rfl) ?_
        | refine awp_skip ?_
        | refine r_done' ?_
        | (refine r_id ?_; first
          | refine r_ev tab_ok rfl rfl rfl rfl (by first | exact trivial | exact ⟨by omega, by omega⟩ | omega | exact ⟨by omega, by omega, by omega, by omega⟩ | exact Nat.le_of_ble_eq_true rfl) rfl ?_
          | refine r_idx tab_ok rfl rfl rfl rfl rfl rfl rfl (by first | exact ⟨by omega, by omega⟩ | (simp; omega)) rfl rfl ?_
          | refine r_ev_cnd tab_ok rfl rfl rfl rfl rfl rfl (by first | exact fun _ => rfl | exact cs1 | exact cs2 | exact cs3) (by first | exact fun _ => trivial | (intro h; simp at h; first | exact ⟨by omega, by omega⟩ | omega)) rfl ?_
          | refine r_idx_cnd tab_ok rfl rfl rfl rfl rfl rfl rfl (by first | exact fun _ => rfl | exact cs1 | exact cs2 | exact cs3) rfl rfl (by exact ⟨by omega, by omega⟩) rfl rfl ?_
          | refine r_and rfl rfl rfl rfl rfl rfl rfl rfl ?_
          | refine r_nilck rfl rfl rfl rfl rfl rfl rfl ?_)
        | refine r_by_cnd (fun _ => astep_nilCheck rfl rfl) rfl rfl rfl (by first | exact fun _ => rfl | exact cs1 | exact cs2 | exact cs3) rfl rfl rfl rfl ?_)
      simp only [Int.toNat_natCast, hgn, hgi]
      try simp only [Int.toNat_natCast, hgn, hgi]
      refine awp_cond rfl (fun hc => ?_) (fun hc => ?_)
      · have hq2 : P q = true := by rw [hP]; exact hc
        rw [if_pos ⟨by omega, hq2⟩] at hst
        repeat (first
          | refine thenA_normal ?_
          | refine a_region ?_
          | refine r_done ?_
          | (refine r_id ?_; first
            | refine r_ev tab_ok rfl rfl rfl rfl (by first | exact trivial | exact ⟨by omega, by omega⟩ | omega | exact ⟨by omega, by omega, by omega, by omega⟩ | exact Nat.le_of_ble_eq_true rfl) rfl ?_
            | refine r_built tab_ok rfl rfl rfl rfl rfl rfl rfl rfl rfl ?_
            | refine r_append tab_ok rfl rfl rfl rfl rfl rfl rfl rfl rfl (by first | omega | (simp; omega)) rfl ?_))
        refine ⟨⟨(q : Int) - 1, by omega, by omega⟩, by dsimp only; omega, ?_⟩
        dsimp only
        simp only [e1]
        rw [hst, List.reverse_append, List.map_append]
        exact fits_conv (by repeat' first | exact trivial | exact rfl | (rw [List.map_append]; first | done | rfl) | exact c_sub rfl (Sub.refl _) rfl | exact c_nil rfl rfl | exact c_thaw rfl rfl rfl | exact c_row rfl rfl rfl | exact c_row rfl rfl (by rw [List.map_append]; first | done | rfl) | exact c_ptr rfl rfl rfl rfl | exact Or.inl ⟨c_sub rfl (Sub.refl _) rfl, c_ptr rfl rfl rfl rfl⟩ | exact c_alt rfl rfl rfl rfl | exact c_ro rfl rfl | exact c_eo rfl rfl | exact c_sub rfl (Sub.altl _ _) rfl | exact c_sub rfl (Sub.nil _) rfl | refine ⟨_, _, rfl, ?_, ?_⟩ | apply And.intro) (by repeat' first | exact trivial | exact rfl | (rw [List.map_append]; first | done | rfl) | exact c_sub rfl (Sub.refl _) rfl | exact c_nil rfl rfl | exact c_thaw rfl rfl rfl | exact c_row rfl rfl rfl | exact c_row rfl rfl (by rw [List.map_append]; first | done | rfl) | exact c_ptr rfl rfl rfl rfl | exact Or.inl ⟨c_sub rfl (Sub.refl _) rfl, c_ptr rfl rfl rfl rfl⟩ | exact c_alt rfl rfl rfl rfl | exact c_ro rfl rfl | exact c_eo rfl rfl | exact c_sub rfl (Sub.altl _ _) rfl | exact c_sub rfl (Sub.nil _) rfl | refine ⟨_, _, rfl, ?_, ?_⟩ | apply And.intro)
      · have hq2 : P q = false := by rw [hP]; exact hc
        rw [if_neg (by rw [hq2]; simp), List.nil_append] at hst
        repeat (first
          | refine thenA_normal ?_
          | refine a_region ?_
          | refine awp_skip ?_
          | refine r_done ?_
          | (refine r_id ?_; first
            | refine r_ev tab_ok rfl rfl rfl rfl (by first | exact trivial | exact ⟨by omega, by omega⟩ | omega | exact ⟨by omega, by omega, by omega, by omega⟩ | exact Nat.le_of_ble_eq_true rfl) rfl ?_))
        refine ⟨⟨(q : Int) - 1, by omega, by omega⟩, by dsimp only; omega, ?_⟩
        dsimp only
        simp only [e1]
        rw [hst]
        exact fits_conv (by repeat' first | exact trivial | exact rfl | (rw [List.map_append]; first | done | rfl) | exact c_sub rfl (Sub.refl _) rfl | exact c_nil rfl rfl | exact c_thaw rfl rfl rfl | exact c_row rfl rfl rfl | exact c_row rfl rfl (by rw [List.map_append]; first | done | rfl) | exact c_ptr rfl rfl rfl rfl | exact Or.inl ⟨c_sub rfl (Sub.refl _) rfl, c_ptr rfl rfl rfl rfl⟩ | exact c_alt rfl rfl rfl rfl | exact c_ro rfl rfl | exact c_eo rfl rfl | exact c_sub rfl (Sub.altl _ _) rfl | exact c_sub rfl (Sub.nil _) rfl | refine ⟨_, _, rfl, ?_, ?_⟩ | apply And.intro) (by repeat' first | exact trivial | exact rfl | (rw [List.map_append]; first | done | rfl) | exact c_sub rfl (Sub.refl _) rfl | exact c_nil rfl rfl | exact c_thaw rfl rfl rfl | exact c_row rfl rfl rfl | exact c_row rfl rfl (by rw [List.map_append]; first | done | rfl) | exact c_ptr rfl rfl rfl rfl | exact Or.inl ⟨c_sub rfl (Sub.refl _) rfl, c_ptr rfl rfl rfl rfl⟩ | exact c_alt rfl rfl rfl rfl | exact c_ro rfl rfl | exact c_eo rfl rfl | exact c_sub rfl (Sub.altl _ _) rfl | exact c_sub rfl (Sub.nil _) rfl | refine ⟨_, _, rfl, ?_, ?_⟩ | apply And.intro)
    · have hk0 : ¬ 0 < k := by simp at hge; omega
      repeat (first
        | refine awp_seq ?_
        | refine thenA_normal ?_
        | refine a_region ?_
        | refine awp_ret ?_
        | refine awp_exit ?_
        | refine r_done ?_
        | (refine r_id ?_; first
          | refine r_ev tab_ok rfl rfl rfl rfl (by first | exact trivial | exact ⟨by omega, by omega⟩ | omega | exact ⟨by omega, by omega, by omega, by omega⟩ | exact Nat.le_of_ble_eq_true rfl) rfl ?_)
        | refine ret1_row (by first | exact .inl rfl | exact .inr rfl) rfl rfl rfl ?_)
      refine Sub.of_eq ?_
      have : ∀ j ∈ List.range m, (decide (k < (j : Int)) && P j) = (decide (0 < j) && P j) := fun j hj => by
        have := List.mem_range.1 hj
        congr 1
        exact decide_eq_decide.2 (by omega)
      rw [List.filter_congr this]
theorem ref_under_ok {l : List Rw} {gs : List Nt} (h : Tied l gs) (i top : Int) (hg : gs.length ≤ 1099511627776) : PCalls Try.prog 31 [rfA gs, .val (.int .i64 i), .val (.int .i64 top)] (.val (.bool (undN gs l i top))) := by
  have hin2 := in_ok gs top hg
  have hp := okPar_of h.gd h.hl
  have hgm : (gs.map fun n => rwD n.r).length = gs.length := List.length_map _
  refine p_start Try.func31 Try.ntmps31 rfl rfl rfl fun S w => ?_
  repeat (first
    | refine awp_seq ?_
    | refine awp_block ?_
    | refine a_region ?_
    | refine r_done ?_
    | (refine r_id ?_; first
      | refine r_ev tab_ok rfl rfl rfl rfl (by first | exact trivial | exact ⟨by omega, by omega⟩ | omega | exact ⟨by omega, by omega, by omega, by omega⟩ | exact Nat.le_of_ble_eq_true rfl) rfl ?_))
  refine a_loop (σ := {j : Int // undN gs l j top = undN gs l i top}) (fun _ => []) (fun x => [(0, rfA gs), (1, .val (.int .i64 x.1)), (2, .val (.int .i64 top))]) (fun x => (x.1 + 1).toNat) ⟨i, rfl⟩ (fits_of rfl (by repeat' first | exact trivial | exact Sub.refl _ | exact rfl | apply And.intro)) ?_
  rintro ⟨j, heq⟩
  dsimp only
  have hin := in_ok gs j hg
  rw [← heq, undN]
  cases hb : inB gs j with
  | false =>
    rw [hb] at hin
    repeat (first
      | refine awp_seq ?_
      | refine thenA_normal ?_
      | refine a_region ?_
      | refine awp_ret ?_
      | refine awp_exit ?_
      | refine r_done ?_
      | (refine r_id ?_; first
        | refine r_ev tab_ok rfl rfl rfl rfl (by first | exact trivial | exact ⟨by omega, by omega⟩ | omega | exact ⟨by omega, by omega, by omega, by omega⟩ | exact Nat.le_of_ble_eq_true rfl) rfl ?_
        | refine r_ev_cnd tab_ok rfl rfl rfl rfl rfl rfl (by first | exact fun _ => rfl | exact cs1 | exact cs2 | exact cs3) (by first | exact fun _ => trivial | (intro h; simp at h; first | exact ⟨by omega, by omega⟩ | omega)) rfl ?_
        | refine r_pick_f rfl rfl rfl rfl rfl rfl rfl ?_
        | refine r_off rfl rfl rfl rfl rfl rfl ?_)
      | refine ret1 (by first | exact .inl rfl | exact .inr rfl) rfl rfl rfl ?_
      | refine awp_cond_f rfl ?_
      | refine r_call hin call40 rfl rfl ⟨Sub.refl _, Sub.refl _, trivial⟩ rfl rfl rfl rfl ?_)
    all_goals exact Sub.refl _
  | true =>
    cases ht : inB gs top with
    | false =>
      rw [hb] at hin; rw [ht] at hin2
      repeat (first
        | refine awp_seq ?_
        | refine thenA_normal ?_
        | refine a_region ?_
        | refine awp_ret ?_
        | refine awp_exit ?_
        | refine r_done ?_
        | (refine r_id ?_; first
          | refine r_ev tab_ok rfl rfl rfl rfl (by first | exact trivial | exact ⟨by omega, by omega⟩ | omega | exact ⟨by omega, by omega, by omega, by omega⟩ | exact Nat.le_of_ble_eq_true rfl) rfl ?_
          | refine r_ev_cnd tab_ok rfl rfl rfl rfl rfl rfl (by first | exact fun _ => rfl | exact cs1 | exact cs2 | exact cs3) (by first | exact fun _ => trivial | (intro h; simp at h; first | exact ⟨by omega, by omega⟩ | omega)) rfl ?_
          | refine r_and rfl rfl rfl rfl rfl rfl rfl rfl ?_)
        | refine ret1 (by first | exact .inl rfl | exact .inr rfl) rfl rfl rfl ?_
        | refine awp_cond_f rfl ?_
        | refine r_call hin call40 rfl rfl ⟨Sub.refl _, Sub.refl _, trivial⟩ rfl rfl rfl rfl ?_
        | refine r_call_cnd (fun _ => hin2) call40 rfl rfl rfl rfl (by first | exact fun _ => rfl | exact cs1 | exact cs2 | exact cs3) ⟨Sub.refl _, Sub.refl _, trivial⟩ rfl rfl rfl rfl ?_)
      all_goals exact Sub.refl _
    | true =>
      rw [hb] at hin; rw [ht] at hin2
      obtain ⟨h0, h1, h2⟩ := inB_t hb
      obtain ⟨t0, t1, t2⟩ := inB_t ht
      obtain ⟨u1, u2, u3⟩ := h.up h2
      have hgn := ntAt_get h2
      repeat (first
        | refine awp_seq ?_
        | refine thenA_normal ?_
        | refine awp_block ?_
        | refine a_region ?_
        | refine awp_skip ?_
        | refine r_done ?_
        | (refine r_id ?_; first
          | refine r_ev tab_ok rfl rfl rfl rfl (by first | exact trivial | exact ⟨by omega, by omega⟩ | omega | exact ⟨by omega, by omega, by omega, by omega⟩ | exact Nat.le_of_ble_eq_true rfl) rfl ?_
          | refine r_ev_cnd tab_ok rfl rfl rfl rfl rfl rfl (by first | exact fun _ => rfl | exact cs1 | exact cs2 | exact cs3) (by first | exact fun _ => trivial | (intro h; simp at h; first | exact ⟨by omega, by omega⟩ | omega)) rfl ?_
          | refine r_and rfl rfl rfl rfl rfl rfl rfl rfl ?_)
        | refine awp_cond_t rfl ?_
        | refine r_call hin call40 rfl rfl ⟨Sub.refl _, Sub.refl _, trivial⟩ rfl rfl rfl rfl ?_
        | refine r_call_cnd (fun _ => hin2) call40 rfl rfl rfl rfl (by first | exact fun _ => rfl | exact cs1 | exact cs2 | exact cs3) ⟨Sub.refl _, Sub.refl _, trivial⟩ rfl rfl rfl rfl ?_)
      refine awp_cond_p rfl (fun he => ?_) (fun hne => ?_)
      · repeat (first
          | refine awp_seq ?_
          | refine thenA_normal ?_
          | refine a_region ?_
          | refine awp_ret ?_
          | refine thenA_ret ?_
          | refine blockA_ret ?_
          | refine r_done ?_
          | (refine r_id ?_; first
            | refine r_ev tab_ok rfl rfl rfl rfl (by first | exact trivial | exact ⟨by omega, by omega⟩ | omega | exact ⟨by omega, by omega, by omega, by omega⟩ | exact Nat.le_of_ble_eq_true rfl) rfl ?_)
          | refine ret1 (by first | exact .inl rfl | exact .inr rfl) rfl rfl rfl ?_)
        exact Sub.of_eq (by subst he; rw [under_self]; rfl)
      · repeat (first
          | refine thenA_normal ?_
          | refine a_region ?_
          | refine blockA_normal ?_
          | refine awp_skip ?_
          | refine r_done ?_
          | (refine r_id ?_; first
            | refine r_ev tab_ok rfl rfl rfl rfl (by first | exact trivial | exact ⟨by omega, by omega⟩ | omega | exact ⟨by omega, by omega, by omega, by omega⟩ | exact Nat.le_of_ble_eq_true rfl) rfl ?_
            | refine r_idx tab_ok rfl rfl rfl rfl rfl rfl rfl (by first | exact ⟨by omega, by omega⟩ | (simp; omega)) rfl rfl ?_
            | refine r_nilck rfl rfl rfl rfl rfl rfl rfl ?_))
        simp only [hgn]
        refine ⟨⟨(ntAt gs j.toNat).r.parent, ?_⟩, by dsimp only; omega, fits_of rfl (by repeat' first | exact trivial | exact Sub.refl _ | exact rfl | apply And.intro)⟩
        rw [undN, ht]
        rw [h.par h2] at u1 u2 ⊢
        rcases Nat.eq_zero_or_pos j.toNat with hz | hz
        · rw [hz, h.p0.2, show inB gs (-1) = false by simp [inB], under_le (Nat.zero_le _), decide_eq_false (by omega)]; rfl
        · obtain ⟨p1, p2⟩ := hp j.toNat hz (by rw [← h.hl]; exact h2)
          have hbp : inB gs (rwAt l j.toNat).parent = true := by
            rw [inB, decide_eq_true p1, decide_eq_true (by omega)]; rfl
          rw [hbp]
          rcases Nat.lt_or_ge top.toNat j.toNat with h3 | h3
          · rw [under_gt hp (by rw [← h.hl]; exact h2) h3]
          · rw [under_le h3, decide_eq_false (by omega), under_le (by omega), decide_eq_false (by omega)]
theorem kidsR_eq {l : List Rw} {gs : List Nt} (h : Tied l gs) (i : Int) : kidsR gs i false = kidF gs i ∧ kidsR gs i true = elemF gs i := by
  rw [kidsR, kidsR, elemF, kidF]
  cases hb : inB gs i with
  | false => exact ⟨rfl, rfl⟩
  | true =>
    obtain ⟨h0, h1, h2⟩ := inB_t hb
    rw [if_pos rfl, if_pos rfl, if_pos rfl, h.gd.kids _ h2, List.filter_filter]
    have e : ((i.toNat : Nat) : Int) = i := Int.toNat_of_nonneg h0
    constructor
    · refine List.filter_congr fun k hk => ?_
      have hk := List.mem_range.1 hk
      rw [kidQ, kidB, h.par hk, e]; simp
    · refine List.filter_congr fun k hk => ?_
      have hk := List.mem_range.1 hk
      rw [kidQ, kidB, h.par hk, e, elB_tag h.gd h.hl (by rw [← h.hl]; exact hk)]
      have : tagB l k = !decide ((ntAt gs k).r.tag = emS) := by
        rw [h.gd.r k hk, tagB]
        show _ = !decide (lowS (rwAt l k).tag = emS)
        congr 1
        exact decide_eq_decide.2 lowS_em.symm
      rw [this]
      cases decide (k ≠ 0) <;> cases decide ((rwAt l k).parent = i) <;> cases decide ((ntAt gs k).r.tag = emS) <;> rfl
theorem befR_eq {l : List Rw} {gs : List Nt} (h : Tied l gs) (i : Int) (hi : -1 ≤ i) : befR gs i = befF gs i := by
  rw [befR, befF, ← (kidsR_eq h _).2, kidsR, parF]
  cases hb : inB gs i with
  | false => simp [inB]
  | true =>
    obtain ⟨h0, h1, h2⟩ := inB_t hb
    rw [if_pos rfl, if_pos rfl]
    congr 1
    obtain ⟨u1, u2, u3⟩ := h.up h2
    rcases (show (ntAt gs i.toNat).r.parent < 0 ∨ 0 ≤ (ntAt gs i.toNat).r.parent by omega) with hn | hn
    · have : inB gs (ntAt gs i.toNat).r.parent = false := by rw [inB, decide_eq_false (by omega)]; rfl
      rw [this, if_neg Bool.false_ne_true, List.filter_nil, List.filter_eq_nil_iff]
      intro k hk
      have hk := List.mem_range.1 hk
      rcases Nat.eq_zero_or_pos k with hz | hz
      · subst hz; simp
      · have := h.up (i := k) (by omega)
        have hp := h.gd.par k hz (by omega)
        rw [befQ, h.par (by omega), decide_eq_false (show ¬ (rwAt l k).parent = _ by omega)]; simp
    · have : inB gs (ntAt gs i.toNat).r.parent = true := by rw [inB, decide_eq_true hn, decide_eq_true (by omega)]; rfl
      rw [this, if_pos rfl, List.filter_filter]
      have key : ∀ n m : Nat, n ≤ m → ∀ P : Nat → Bool, (List.range n).filter (fun k => decide (0 < k) && P k) = (List.range m).filter fun k => !decide ((n : Int) ≤ (k : Nat)) && (decide (k ≠ 0) && P k) := by
        intro n m hnm P
        induction m with
        | zero =>
          have : n = 0 := by omega
          subst this; rfl
        | succ m ih =>
          rw [range_filter_succ]
          rcases Nat.lt_or_ge m n with h1 | h1
          · have : n = m + 1 := by omega
            subst this
            rw [← range_filter_succ]
            refine List.filter_congr fun k hk => ?_
            have hk := List.mem_range.1 hk
            rw [decide_eq_false (show ¬ ((m + 1 : Nat) : Int) ≤ (k : Nat) by omega), show decide (0 < k) = decide (k ≠ 0) from decide_eq_decide.2 (by omega)]
            rfl
          · rw [ih h1, decide_eq_true (show (n : Int) ≤ (m : Nat) by omega)]; simp
      have := key i.toNat gs.length (by omega) (befQ gs (ntAt gs i.toNat).r.parent)
      rw [Int.toNat_of_nonneg h0] at this
      rw [this]
      refine List.filter_congr fun k hk => ?_
      rw [kidQ, befQ]; rfl
theorem flat_take_le {l : List Rw} (K : List Nat) (j : Nat) : ((K.take j).flatMap (walkP l)).length ≤ (K.flatMap (walkP l)).length := by
  have := congrArg (fun L : List Nat => (L.flatMap (walkP l)).length) (List.take_append_drop j K)
  simp only [List.flatMap_append, List.length_append] at this
  omega
theorem ref_walk_ok {l : List Rw} {gs : List Nt} (h : Tied l gs) (hg : gs.length ≤ 1099511627776) : ∀ (n i : Nat), l.length - i ≤ n → i < l.length → PCalls Try.prog 39 [rfA gs, .val (.int .i64 i)] (.sl 1 ((walkP l i).map nD)) := by
  intro n
  induction n with
  | zero => intro i h1 h2; omega
  | succ n ih =>
    intro i h1 h2
    have hp := okPar_of h.gd h.hl
    have hK := ref_kids_ok gs i false hg
    rw [(kidsR_eq h _).1, kidF_kidsP h.gd h.hl h2] at hK
    have hw := walkP_eq hp h2
    have hnd := nodup_le (walk_nodup hp _ i (Nat.le_refl _) h2) (fun k hk => ((mem_walk hp _ i (Nat.le_refl _) h2 k).1 hk).1)
    have hkk : ∀ k ∈ kidsP l i, k < l.length ∧ i < k := fun k hk => by
      obtain ⟨k1, k2, k3⟩ := mem_kidsP.1 hk
      have := hp k k2 k1
      exact ⟨k1, by omega⟩
    have hKl : (kidsP l i).length ≤ l.length := by
      have := List.length_filter_le (kidB l i) (List.range l.length)
      rwa [List.length_range] at this
    have hgl2 := h.hl
    rw [hw] at hnd ⊢
    rw [List.length_cons] at hnd
    generalize kidsP l i = K at hK hkk hnd hKl ⊢
    refine p_start Try.func39 Try.ntmps39 rfl rfl rfl fun S w => ?_
    have hKm : (K.map nD).length = K.length := List.length_map _
    repeat (first
      | refine awp_seq ?_
      | refine a_region ?_
      | refine r_done ?_
      | (refine r_id ?_; first
        | refine r_ev tab_ok rfl rfl rfl rfl (by first | exact trivial | exact ⟨by omega, by omega⟩ | omega | exact ⟨by omega, by omega, by omega, by omega⟩ | exact Nat.le_of_ble_eq_true rfl) rfl ?_))
    refine r_built_row tab_ok rfl rfl rfl rfl rfl rfl rfl rfl rfl ?_
    repeat (first
      | refine awp_seq ?_
      | refine a_region ?_
      | refine r_done ?_
      | (refine r_id ?_; first
        | refine r_ev tab_ok rfl rfl rfl rfl (by first | exact trivial | exact ⟨by omega, by omega⟩ | omega | exact ⟨by omega, by omega, by omega, by omega⟩ | exact Nat.le_of_ble_eq_true rfl) rfl ?_))
    refine r_call hK call25 rfl rfl ⟨Sub.refl _, Sub.refl _, Sub.refl _, trivial⟩ rfl rfl rfl rfl ?_
    repeat (first
      | refine awp_seq ?_
      | refine thenA_normal ?_
      | refine awp_block ?_
      | refine a_region ?_
      | refine r_done ?_
      | (refine r_id ?_; first
        | refine r_ev tab_ok rfl rfl rfl rfl (by first | exact trivial | exact ⟨by omega, by omega⟩ | omega | exact ⟨by omega, by omega, by omega, by omega⟩ | exact Nat.le_of_ble_eq_true rfl) rfl ?_))
    refine a_loop (σ := {j : Nat // j ≤ K.length}) (fun x => [.row 0 3 1 ((i :: (K.take x.1).flatMap (walkP l)).map nD)]) (fun x => [(0, rfA gs), (5, .row 0 0), (6, .sl 1 (K.map nD)), (7, .val (.int .i64 x.1))]) (fun x => K.length - x.1) ⟨0, Nat.zero_le _⟩ (fits_conv (by repeat' first | exact trivial | exact rfl | (rw [List.map_append]; first | done | rfl) | exact c_sub rfl (Sub.refl _) rfl | exact c_nil rfl rfl | exact c_thaw rfl rfl rfl | exact c_row rfl rfl rfl | exact c_row rfl rfl (by rw [List.map_append]; first | done | rfl) | exact c_ptr rfl rfl rfl rfl | exact Or.inl ⟨c_sub rfl (Sub.refl _) rfl, c_ptr rfl rfl rfl rfl⟩ | exact c_alt rfl rfl rfl rfl | exact c_ro rfl rfl | exact c_eo rfl rfl | exact c_sub rfl (Sub.altl _ _) rfl | exact c_sub rfl (Sub.nil _) rfl | refine ⟨_, _, rfl, ?_, ?_⟩ | apply And.intro) (by repeat' first | exact trivial | exact rfl | (rw [List.map_append]; first | done | rfl) | exact c_sub rfl (Sub.refl _) rfl | exact c_nil rfl rfl | exact c_thaw rfl rfl rfl | exact c_row rfl rfl rfl | exact c_row rfl rfl (by rw [List.map_append]; first | done | rfl) | exact c_ptr rfl rfl rfl rfl | exact Or.inl ⟨c_sub rfl (Sub.refl _) rfl, c_ptr rfl rfl rfl rfl⟩ | exact c_alt rfl rfl rfl rfl | exact c_ro rfl rfl | exact c_eo rfl rfl | exact c_sub rfl (Sub.altl _ _) rfl | exact c_sub rfl (Sub.nil _) rfl | refine ⟨_, _, rfl, ?_, ?_⟩ | apply And.intro)) ?_
    rintro ⟨j, hj⟩
    dsimp only
    repeat (first
      | refine awp_seq ?_
      | refine thenA_normal ?_
      | refine a_region ?_
      | refine r_done ?_
      | (refine r_id ?_; first
        | refine r_len tab_ok rfl rfl rfl rfl rfl rfl rfl ?_
        | refine r_ev tab_ok rfl rfl rfl rfl (by first | exact trivial | exact ⟨by omega, by omega⟩ | omega | exact ⟨by omega, by omega, by omega, by omega⟩ | exact Nat.le_of_ble_eq_true rfl) rfl ?_))
    refine awp_cond_p rfl (fun hlt => ?_) (fun hge => ?_)
    · have hj' : j < K.length := by omega
      obtain ⟨q1, q2⟩ := hkk K[j] (List.getElem_mem hj')
      have hc := ih K[j] (by omega) q1
      have hb1 := flat_take_le (l := l) K (j + 1)
      have htk : (K.take (j + 1)).flatMap (walkP l) = (K.take j).flatMap (walkP l) ++ walkP l K[j] := by
        rw [List.take_add_one, List.getElem?_eq_getElem hj', List.flatMap_append]; simp
      have hlen : ((K.take j).flatMap (walkP l)).length + (walkP l K[j]).length ≤ 1099511627776 := by
        rw [htk, List.length_append] at hb1
        have := h.hl
        omega
      repeat (first
        | refine awp_seq ?_
        | refine awp_block ?_
        | refine a_region ?_
        | refine awp_skip ?_
        | (refine r_id ?_; first
          | refine r_ev tab_ok rfl rfl rfl rfl (by first | exact trivial | exact ⟨by omega, by omega⟩ | omega | exact ⟨by omega, by omega, by omega, by omega⟩ | exact Nat.le_of_ble_eq_true rfl) rfl ?_
          | refine r_idx tab_ok rfl rfl rfl rfl rfl rfl rfl (by first | exact ⟨by omega, by omega⟩ | (simp; omega)) rfl rfl ?_))
      simp only [Int.toNat_natCast]
      refine r_call hc call39 rfl rfl ⟨Sub.refl _, Sub.refl _, trivial⟩ rfl rfl rfl rfl ?_
      refine r_append tab_ok rfl rfl rfl rfl rfl rfl rfl rfl rfl (by simp only [List.length_map, List.length_cons]; show (_ + 1 + _) * 8 ≤ _; omega) rfl ?_
      repeat (first
        | refine thenA_normal ?_
        | refine a_region ?_
        | refine r_done ?_
        | (refine r_id ?_; first
          | refine r_ev tab_ok rfl rfl rfl rfl (by first | exact trivial | exact ⟨by omega, by omega⟩ | omega | exact ⟨by omega, by omega, by omega, by omega⟩ | exact Nat.le_of_ble_eq_true rfl) rfl ?_))
      refine ⟨⟨j + 1, by omega⟩, by dsimp only; omega, ?_⟩
      dsimp only
      rw [htk, ← List.cons_append, List.map_append]
      exact fits_conv (by repeat' first | exact trivial | exact rfl | (rw [List.map_append]; first | done | rfl) | exact c_sub rfl (Sub.refl _) rfl | exact c_nil rfl rfl | exact c_thaw rfl rfl rfl | exact c_row rfl rfl rfl | exact c_row rfl rfl (by rw [List.map_append]; first | done | rfl) | exact c_ptr rfl rfl rfl rfl | exact Or.inl ⟨c_sub rfl (Sub.refl _) rfl, c_ptr rfl rfl rfl rfl⟩ | exact c_alt rfl rfl rfl rfl | exact c_ro rfl rfl | exact c_eo rfl rfl | exact c_sub rfl (Sub.altl _ _) rfl | exact c_sub rfl (Sub.nil _) rfl | refine ⟨_, _, rfl, ?_, ?_⟩ | apply And.intro) (by repeat' first | exact trivial | exact rfl | (rw [List.map_append]; first | done | rfl) | exact c_sub rfl (Sub.refl _) rfl | exact c_nil rfl rfl | exact c_thaw rfl rfl rfl | exact c_row rfl rfl rfl | exact c_row rfl rfl (by rw [List.map_append]; first | done | rfl) | exact c_ptr rfl rfl rfl rfl | exact Or.inl ⟨c_sub rfl (Sub.refl _) rfl, c_ptr rfl rfl rfl rfl⟩ | exact c_alt rfl rfl rfl rfl | exact c_ro rfl rfl | exact c_eo rfl rfl | exact c_sub rfl (Sub.altl _ _) rfl | exact c_sub rfl (Sub.nil _) rfl | refine ⟨_, _, rfl, ?_, ?_⟩ | apply And.intro)
    · have : j = K.length := by omega
      subst this
      rw [List.take_length]
      repeat (first
        | refine awp_seq ?_
        | refine thenA_normal ?_
        | refine a_region ?_
        | refine awp_ret ?_
        | refine awp_exit ?_
        | refine r_done ?_
        | (refine r_id ?_; first
          | refine r_ev tab_ok rfl rfl rfl rfl (by first | exact trivial | exact ⟨by omega, by omega⟩ | omega | exact ⟨by omega, by omega, by omega, by omega⟩ | exact Nat.le_of_ble_eq_true rfl) rfl ?_)
        | refine ret1_row (by first | exact .inl rfl | exact .inr rfl) rfl rfl rfl ?_)
      all_goals exact Sub.refl _
theorem ref_order_ok {l : List Rw} {gs : List Nt} (h : Tied l gs) (hg : gs.length ≤ 1099511627776) : PCalls Try.prog 20 [rfA gs] (.sl 1 ((walkP l 0).map nD)) := by
  refine p_start Try.func20 Try.ntmps20 rfl rfl rfl fun S w => ?_
  have hw := ref_walk_ok h hg l.length 0 (by omega) h.p0.1
  repeat (first
    | refine awp_seq ?_
    | refine a_region ?_
    | refine r_done ?_
    | (refine r_id ?_; first
      | refine r_ev tab_ok rfl rfl rfl rfl (by first | exact trivial | exact ⟨by omega, by omega⟩ | omega | exact ⟨by omega, by omega, by omega, by omega⟩ | exact Nat.le_of_ble_eq_true rfl) rfl ?_))
  refine r_call hw call39 rfl rfl ⟨Sub.refl _, Sub.refl _, trivial⟩ rfl rfl rfl rfl ?_
  repeat (first
    | refine thenA_normal ?_
    | refine awp_ret ?_
    | refine r_done ?_
    | (refine r_id ?_; first
      | refine r_ev tab_ok rfl rfl rfl rfl (by first | exact trivial | exact ⟨by omega, by omega⟩ | omega | exact ⟨by omega, by omega, by omega, by omega⟩ | exact Nat.le_of_ble_eq_true rfl) rfl ?_)
    | refine ret1 (by first | exact .inl rfl | exact .inr rfl) rfl rfl rfl ?_)
  exact Sub.refl _
end Go.Proofs.Ytklodolkgdmhoaa
