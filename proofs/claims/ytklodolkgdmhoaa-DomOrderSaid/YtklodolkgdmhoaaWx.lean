/- The law DomOrder. -/
import Derived.Test.YtklodolkgdmhoaaWt
import Derived.Test.YtklodolkgdmhoaaWv
namespace Go.Proofs.Ytklodolkgdmhoaa
open Go Go.RowKit

def oaS : ByteArray := ⟨#[97]⟩
def obS : ByteArray := ⟨#[98]⟩
def rnd (ps : List Int) (i : Nat) : Int := ((ps.getD i 0).tmod ((i : Int) + 1) + ((i : Int) + 1)) % ((i : Int) + 1)
def ordR (ps : List Int) (i : Nat) : Rw := ⟨rnd ps i, obS, emS, []⟩
def ordL (ps : List Int) (n : Nat) : List Rw := ⟨-1, oaS, emS, []⟩ :: (List.range n).map (ordR ps)
theorem ordL_len (ps : List Int) (n : Nat) : (ordL ps n).length = n + 1 := by simp [ordL]
theorem ordL_succ (ps : List Int) (n : Nat) : ordL ps (n + 1) = ordL ps n ++ [ordR ps n] := by rw [ordL, ordL, List.range_succ, List.map_append]; rfl
theorem ordL_at {ps : List Int} {n : Nat} : ∀ r ∈ ordL ps n, r.attrs = [] ∧ r.tag.size ≤ 1 := fun r hr => by
  rcases List.mem_cons.1 hr with rfl | hr
  · exact ⟨rfl, Nat.le_refl 1⟩
  · obtain ⟨i, _, rfl⟩ := List.mem_map.1 hr
    exact ⟨rfl, Nat.le_refl 1⟩
def neg1 (n i : Nat) : List Int := List.replicate i (-1) ++ List.replicate (n - i) 0
theorem neg1_len {n i : Nat} (h : i ≤ n) : (neg1 n i).length = n := by simp [neg1]; omega
theorem neg1_set {n i : Nat} (h : i < n) : (neg1 n i).set i (-1) = neg1 n (i + 1) := by
  obtain ⟨m, hm⟩ : ∃ m, n - i = m + 1 := ⟨n - i - 1, by omega⟩
  rw [neg1, neg1, hm, List.replicate_succ, List.set_append_right _ _ (by simp), List.length_replicate, Nat.sub_self, List.set_cons_zero, List.replicate_succ', show n - (i + 1) = m by omega, List.append_assoc]
  rfl
set_option maxHeartbeats 8000000 in
theorem lawOrder (ps : List Int) (hps : ∀ i ∈ ps, -9223372036854775808 ≤ i ∧ i ≤ 9223372036854775807) : PCalls Try.prog 3 [.sl 1 (ps.map iD)] (.val (.bool true)) := by
  refine p_start Try.func3 Try.ntmps3 rfl rfl rfl fun S w => ?_
  have hpm : (ps.map iD).length = ps.length := List.length_map _
  repeat (first
    | refine awp_seq ?_
    | refine thenA_normal ?_
    | refine a_region ?_
    | refine r_done ?_
    | (refine r_id ?_; first
      | refine r_len tab_ok rfl rfl rfl rfl rfl rfl rfl ?_
      | refine r_ev tab_ok rfl rfl rfl rfl (by first | exact trivial | exact ⟨by omega, by omega⟩ | omega | exact ⟨by omega, by omega, by omega, by omega⟩ | exact Nat.le_of_ble_eq_true rfl) rfl ?_))
  refine awp_cond_p rfl (fun hc => ?_) (fun hc => ?_)
  · repeat (first
      | refine awp_seq ?_
      | refine a_region ?_)
    refine r_call awake_ok call8 rfl rfl trivial rfl rfl rfl rfl ?_
    repeat (first
      | refine thenA_normal ?_
      | refine awp_ret ?_
      | refine thenA_ret ?_
      | refine r_done ?_
      | (refine r_id ?_; first
        | refine r_ev tab_ok rfl rfl rfl rfl (by first | exact trivial | exact ⟨by omega, by omega⟩ | omega | exact ⟨by omega, by omega, by omega, by omega⟩ | exact Nat.le_of_ble_eq_true rfl) rfl ?_)
      | refine ret1 (by first | exact .inl rfl | exact .inr rfl) rfl rfl rfl ?_)
    exact Sub.refl _
  · have h60 : ps.length ≤ 60 := by omega
    repeat (first
      | refine awp_seq ?_
      | refine a_region ?_
      | refine awp_skip ?_
      | (refine r_id ?_; first
        | refine r_build tab_ok rfl rfl rfl rfl rfl rfl ?_))
    refine r_built_row tab_ok rfl rfl rfl rfl rfl rfl rfl rfl rfl ?_
    repeat (first
      | refine awp_seq ?_
      | refine thenA_normal ?_
      | refine awp_block ?_
      | refine a_region ?_
      | refine r_done ?_
      | (refine r_id ?_; first
        | refine r_ev tab_ok rfl rfl rfl rfl (by first | exact trivial | exact ⟨by omega, by omega⟩ | omega | exact ⟨by omega, by omega, by omega, by omega⟩ | exact Nat.le_of_ble_eq_true rfl) rfl ?_))
    refine a_loop (σ := {i : Nat // i ≤ ps.length}) (fun x => [.row 0 26 4 ((ordL ps x.1).map rwZ)]) (fun x => [(0, .sl 1 (ps.map iD)), (3, .row 0 0), (4, .val (.int .i64 x.1))]) (fun x => ps.length - x.1) ⟨0, Nat.zero_le _⟩ (fits_conv (by repeat' first | exact trivial | exact rfl | (rw [List.map_append]; first | done | rfl) | exact c_sub rfl (Sub.refl _) rfl | exact c_nil rfl rfl | exact c_thaw rfl rfl rfl | exact c_row rfl rfl rfl | exact c_row rfl rfl (by rw [List.map_append]; first | done | rfl) | exact c_ptr rfl rfl rfl rfl | exact Or.inl ⟨c_sub rfl (Sub.refl _) rfl, c_ptr rfl rfl rfl rfl⟩ | exact c_alt rfl rfl rfl rfl | exact c_ro rfl rfl | exact c_eo rfl rfl | exact c_sub rfl (Sub.altl _ _) rfl | exact c_sub rfl (Sub.nil _) rfl | refine ⟨_, _, rfl, ?_, ?_⟩ | apply And.intro) (by repeat' first | exact trivial | exact rfl | (rw [List.map_append]; first | done | rfl) | exact c_sub rfl (Sub.refl _) rfl | exact c_nil rfl rfl | exact c_thaw rfl rfl rfl | exact c_row rfl rfl rfl | exact c_row rfl rfl (by rw [List.map_append]; first | done | rfl) | exact c_ptr rfl rfl rfl rfl | exact Or.inl ⟨c_sub rfl (Sub.refl _) rfl, c_ptr rfl rfl rfl rfl⟩ | exact c_alt rfl rfl rfl rfl | exact c_ro rfl rfl | exact c_eo rfl rfl | exact c_sub rfl (Sub.altl _ _) rfl | exact c_sub rfl (Sub.nil _) rfl | refine ⟨_, _, rfl, ?_, ?_⟩ | apply And.intro)) ?_
    rintro ⟨i, hi⟩
    dsimp only
    have hol := ordL_len ps i
    have hom : ((ordL ps i).map rwZ).length = i + 1 := by rw [List.length_map, hol]
    repeat (first
      | refine awp_seq ?_
      | refine thenA_normal ?_
      | refine a_region ?_
      | refine r_done ?_
      | (refine r_id ?_; first
        | refine r_len tab_ok rfl rfl rfl rfl rfl rfl rfl ?_
        | refine r_ev tab_ok rfl rfl rfl rfl (by first | exact trivial | exact ⟨by omega, by omega⟩ | omega | exact ⟨by omega, by omega, by omega, by omega⟩ | exact Nat.le_of_ble_eq_true rfl) rfl ?_))
    refine awp_cond_p rfl (fun hlt => ?_) (fun hge => ?_)
    · have hi' : i < ps.length := by omega
      have hR := round_ok ps[i] ((i : Int) + 1) (by omega) (by omega) (hps _ (List.getElem_mem hi'))
      have hrn : (ps[i].tmod ((i : Int) + 1) + ((i : Int) + 1)) % ((i : Int) + 1) = rnd ps i := by rw [rnd, List.getD_eq_getElem?_getD, List.getElem?_eq_getElem hi']; rfl
      rw [hrn] at hR
      repeat (first
        | refine awp_seq ?_
        | refine awp_block ?_
        | refine a_region ?_
        | refine awp_skip ?_
        | (refine r_id ?_; first
          | refine r_ev tab_ok rfl rfl rfl rfl (by first | exact trivial | exact ⟨by omega, by omega⟩ | omega | exact ⟨by omega, by omega, by omega, by omega⟩ | exact Nat.le_of_ble_eq_true rfl) rfl ?_
          | refine r_idx tab_ok rfl rfl rfl rfl rfl rfl rfl (by first | exact ⟨by omega, by omega⟩ | (simp; omega)) rfl rfl ?_))
      simp only [Int.toNat_natCast]
      refine r_call hR call9 rfl rfl ⟨Sub.refl _, Sub.refl _, trivial⟩ rfl rfl rfl rfl ?_
      repeat (first
        | refine thenA_normal ?_
        | refine a_region ?_
        | refine r_done ?_
        | (refine r_id ?_; first
          | refine r_ev tab_ok rfl rfl rfl rfl (by first | exact trivial | exact ⟨by omega, by omega⟩ | omega | exact ⟨by omega, by omega, by omega, by omega⟩ | exact Nat.le_of_ble_eq_true rfl) rfl ?_
          | refine r_build tab_ok rfl rfl rfl rfl rfl rfl ?_
          | refine r_built tab_ok rfl rfl rfl rfl rfl rfl rfl rfl rfl ?_
          | refine r_append tab_ok rfl rfl rfl rfl rfl rfl rfl rfl rfl (by first | omega | (simp; omega)) rfl ?_))
      refine ⟨⟨i + 1, by omega⟩, by dsimp only; omega, ?_⟩
      dsimp only
      rw [ordL_succ, List.map_append]
      exact fits_conv (by repeat' first | exact trivial | exact rfl | (rw [List.map_append]; first | done | rfl) | exact c_sub rfl (Sub.refl _) rfl | exact c_nil rfl rfl | exact c_thaw rfl rfl rfl | exact c_row rfl rfl rfl | exact c_row rfl rfl (by rw [List.map_append]; first | done | rfl) | exact c_ptr rfl rfl rfl rfl | exact Or.inl ⟨c_sub rfl (Sub.refl _) rfl, c_ptr rfl rfl rfl rfl⟩ | exact c_alt rfl rfl rfl rfl | exact c_ro rfl rfl | exact c_eo rfl rfl | exact c_sub rfl (Sub.altl _ _) rfl | exact c_sub rfl (Sub.nil _) rfl | refine ⟨_, _, rfl, ?_, ?_⟩ | apply And.intro) (by repeat' first | exact trivial | exact rfl | (rw [List.map_append]; first | done | rfl) | exact c_sub rfl (Sub.refl _) rfl | exact c_nil rfl rfl | exact c_thaw rfl rfl rfl | exact c_row rfl rfl rfl | exact c_row rfl rfl (by rw [List.map_append]; first | done | rfl) | exact c_ptr rfl rfl rfl rfl | exact Or.inl ⟨c_sub rfl (Sub.refl _) rfl, c_ptr rfl rfl rfl rfl⟩ | exact c_alt rfl rfl rfl rfl | exact c_ro rfl rfl | exact c_eo rfl rfl | exact c_sub rfl (Sub.altl _ _) rfl | exact c_sub rfl (Sub.nil _) rfl | refine ⟨_, _, rfl, ?_, ?_⟩ | apply And.intro)
    · have : i = ps.length := by omega
      subst this
      have hsm : ∀ r ∈ ordL ps ps.length, smR r := fun r hr => by obtain ⟨a, b⟩ := ordL_at r hr; exact ⟨by omega, by rw [a]; exact Nat.zero_le _, fun x hx => by rw [a] at hx; cases hx⟩
      have hz : DSubs ((ordL ps ps.length).map rwZ) ((ordL ps ps.length).map rwD) := DSubs.map fun r hr => rwZ_sub (ordL_at r hr).1
      have hN : PCalls Try.prog 10 [.sl 4 ((ordL ps ps.length).map rwZ)] (resN (newF (ordL ps ps.length))) := pcalls_sub (new_ok _ (by omega) hsm) ⟨Sub.sl hz, trivial⟩
      have hM : PCalls Try.prog 11 [.sl 4 ((ordL ps ps.length).map rwZ)] (resT (newF (ordL ps ps.length))) := pcalls_sub (newTree_ok _ (by omega) hsm) ⟨Sub.sl hz, trivial⟩
      clear hz hsm
      obtain ⟨L, hL⟩ : ∃ L, L = ordL ps ps.length := ⟨_, rfl⟩
      rw [← hL] at hN hM hol hom ⊢
      have h61 : 1 ≤ L.length ∧ L.length ≤ 61 := by omega
      repeat (first
        | refine awp_seq ?_
        | refine awp_exit ?_)
      refine awp_fits (s' := ⟨[.gone], [(3, .sl 4 (L.map rwZ))]⟩) (fits_conv (by repeat' first | exact trivial | exact rfl | (rw [List.map_append]; first | done | rfl) | exact c_sub rfl (Sub.refl _) rfl | exact c_nil rfl rfl | exact c_thaw rfl rfl rfl | exact c_row rfl rfl rfl | exact c_row rfl rfl (by rw [List.map_append]; first | done | rfl) | exact c_ptr rfl rfl rfl rfl | exact Or.inl ⟨c_sub rfl (Sub.refl _) rfl, c_ptr rfl rfl rfl rfl⟩ | exact c_alt rfl rfl rfl rfl | exact c_ro rfl rfl | exact c_eo rfl rfl | exact c_sub rfl (Sub.altl _ _) rfl | exact c_sub rfl (Sub.nil _) rfl | refine ⟨_, _, rfl, ?_, ?_⟩ | apply And.intro) (by repeat' first | exact trivial | exact rfl | (rw [List.map_append]; first | done | rfl) | exact c_sub rfl (Sub.refl _) rfl | exact c_nil rfl rfl | exact c_thaw rfl rfl rfl | exact c_row rfl rfl rfl | exact c_row rfl rfl (by rw [List.map_append]; first | done | rfl) | exact c_ptr rfl rfl rfl rfl | exact Or.inl ⟨c_sub rfl (Sub.refl _) rfl, c_ptr rfl rfl rfl rfl⟩ | exact c_alt rfl rfl rfl rfl | exact c_ro rfl rfl | exact c_eo rfl rfl | exact c_sub rfl (Sub.altl _ _) rfl | exact c_sub rfl (Sub.nil _) rfl | refine ⟨_, _, rfl, ?_, ?_⟩ | apply And.intro)) ?_
      cases hnew : newF L with
      | none =>
        rw [hnew] at hN hM
        repeat (first
          | refine a_region ?_
          | (refine r_id ?_; first
            | refine r_ev tab_ok rfl rfl rfl rfl (by first | exact trivial | exact ⟨by omega, by omega⟩ | omega | exact ⟨by omega, by omega, by omega, by omega⟩ | exact Nat.le_of_ble_eq_true rfl) rfl ?_))
        refine r_call hN call10 rfl rfl ⟨Sub.refl _, trivial⟩ rfl rfl rfl rfl ?_
        repeat (first
          | refine awp_seq ?_
          | refine a_region ?_
          | refine r_done ?_
          | (refine r_id ?_; first
            | refine r_ev tab_ok rfl rfl rfl rfl (by first | exact trivial | exact ⟨by omega, by omega⟩ | omega | exact ⟨by omega, by omega, by omega, by omega⟩ | exact Nat.le_of_ble_eq_true rfl) rfl ?_))
        refine r_call hM call11 rfl rfl ⟨Sub.refl _, trivial⟩ rfl rfl rfl rfl ?_
        repeat (first
          | refine awp_seq ?_
          | refine thenA_normal ?_
          | refine a_region ?_
          | refine r_done ?_
          | (refine r_id ?_; first
            | refine r_ev tab_ok rfl rfl rfl rfl (by first | exact trivial | exact ⟨by omega, by omega⟩ | omega | exact ⟨by omega, by omega, by omega, by omega⟩ | exact Nat.le_of_ble_eq_true rfl) rfl ?_)
          | refine awp_cond_t rfl ?_
          | refine r_by (fun _ => astep_eqnil_nil underR rfl rfl rfl) rfl rfl rfl rfl rfl ?_)
        refine r_call_cnd (fun _ => awake_ok) call8 rfl rfl rfl rfl (by first | exact fun _ => rfl | exact cs1 | exact cs2 | exact cs3) trivial rfl rfl rfl rfl ?_
        repeat (first
          | refine thenA_normal ?_
          | refine awp_ret ?_
          | refine thenA_ret ?_
          | refine r_done ?_
          | (refine r_id ?_; first
            | refine r_ev tab_ok rfl rfl rfl rfl (by first | exact trivial | exact ⟨by omega, by omega⟩ | omega | exact ⟨by omega, by omega, by omega, by omega⟩ | exact Nat.le_of_ble_eq_true rfl) rfl ?_
            | refine r_and rfl rfl rfl rfl rfl rfl rfl rfl ?_)
          | refine ret1 (by first | exact .inl rfl | exact .inr rfl) rfl rfl rfl ?_)
        exact Sub.of_eq rfl
      | some gs =>
        rw [hnew] at hN hM
        have T := tied_new hnew
        have hp := okPar_of T.gd T.hl
        have h0 := T.p0.1
        have hg : gs.length ≤ 1099511627776 := by have := T.hl; omega
        have hO := order_ok hg T.gd T.hl h0
        obtain ⟨O, hOe⟩ : ∃ O, O = walkP L 0 := ⟨_, rfl⟩
        have hOl : O.length = L.length := by rw [hOe]; exact walk0_all hp h0
        have hOn : O.Nodup := by rw [hOe]; exact walk0_nodup hp h0
        have hOm : ∀ x, x ∈ O ↔ x < L.length := fun x => by rw [hOe]; exact mem_walk0 hp h0 x
        have hO0 : O[0]? = some 0 := by rw [hOe]; exact walk_first hp h0
        have hOp : ∀ {j x : Nat}, O[j]? = some x → 0 < j → 0 < x ∧ x < L.length ∧ 0 ≤ (rwAt L x).parent ∧ (rwAt L x).parent < x ∧ ∃ k, k < j ∧ O[k]? = some (rwAt L x).parent.toNat := fun h1 h2 => by rw [hOe] at h1 ⊢; exact walk_parent hp h0 h1 h2
        have hOu : ∀ {i k t : Nat}, i < L.length → O[k]? = some i → t < (walkP L i).length → ∃ x, O[k + t]? = some x ∧ x < L.length ∧ under L x i = true := fun h1 h2 h3 => by rw [hOe] at h2 ⊢; exact walk_under hp h0 h1 h2 h3
        have hU : ∀ a b : Nat, a < L.length → b < L.length → PCalls Try.prog 13 [trA gs, .val (.int .i64 a), .val (.int .i64 b)] (.val (.bool (under L a b))) := fun a b h1 h2 => by
          have := under_ok hg T.gd T.hl a b
          have e : undN gs L a b = under L a b := by
            have := T.hl
            rw [undN, inB, inB, decide_eq_true (by omega), decide_eq_true (by omega), decide_eq_true (by omega), decide_eq_true (by omega), Int.toNat_natCast, Int.toNat_natCast]
            rfl
          rwa [e] at this
        rw [← hOe] at hO
        have hOm' : (O.map nD).length = O.length := List.length_map _
        repeat (first
          | refine a_region ?_
          | (refine r_id ?_; first
            | refine r_ev tab_ok rfl rfl rfl rfl (by first | exact trivial | exact ⟨by omega, by omega⟩ | omega | exact ⟨by omega, by omega, by omega, by omega⟩ | exact Nat.le_of_ble_eq_true rfl) rfl ?_))
        refine r_call hN call10 rfl rfl ⟨Sub.refl _, trivial⟩ rfl rfl rfl rfl ?_
        repeat (first
          | refine awp_seq ?_
          | refine a_region ?_
          | refine r_done ?_
          | (refine r_id ?_; first
            | refine r_ev tab_ok rfl rfl rfl rfl (by first | exact trivial | exact ⟨by omega, by omega⟩ | omega | exact ⟨by omega, by omega, by omega, by omega⟩ | exact Nat.le_of_ble_eq_true rfl) rfl ?_))
        refine r_call hM call11 rfl rfl ⟨Sub.refl _, trivial⟩ rfl rfl rfl rfl ?_
        repeat (first
          | refine awp_seq ?_
          | refine thenA_normal ?_
          | refine a_region ?_
          | refine awp_skip ?_
          | refine r_done ?_
          | (refine r_id ?_; first
            | refine r_ev tab_ok rfl rfl rfl rfl (by first | exact trivial | exact ⟨by omega, by omega⟩ | omega | exact ⟨by omega, by omega, by omega, by omega⟩ | exact Nat.le_of_ble_eq_true rfl) rfl ?_
            | refine r_ev_cnd tab_ok rfl rfl rfl rfl rfl rfl (by first | exact fun _ => rfl | exact cs1 | exact cs2 | exact cs3) (by first | exact fun _ => trivial | (intro h; simp at h; first | exact ⟨by omega, by omega⟩ | omega)) rfl ?_
            | refine r_or rfl rfl rfl rfl rfl rfl rfl rfl ?_)
          | refine awp_cond_f rfl ?_
          | refine r_by_cnd (fun _ => astep_eqnil_d underT rfl rfl rfl) rfl rfl rfl (by first | exact fun _ => rfl | exact cs1 | exact cs2 | exact cs3) rfl rfl rfl rfl ?_
          | refine r_by (fun _ => astep_eqnil_d underR rfl rfl rfl) rfl rfl rfl rfl rfl ?_)
        refine r_call hO call12 rfl rfl ⟨Sub.refl _, trivial⟩ rfl rfl rfl rfl ?_
        repeat (first
          | refine awp_seq ?_
          | refine thenA_normal ?_
          | refine a_region ?_
          | refine r_done ?_
          | (refine r_id ?_; first
            | refine r_len tab_ok rfl rfl rfl rfl rfl rfl rfl ?_
            | refine r_ev tab_ok rfl rfl rfl rfl (by first | exact trivial | exact ⟨by omega, by omega⟩ | omega | exact ⟨by omega, by omega, by omega, by omega⟩ | exact Nat.le_of_ble_eq_true rfl) rfl ?_
            | refine r_ev_cnd tab_ok rfl rfl rfl rfl rfl rfl (by first | exact fun _ => rfl | exact cs1 | exact cs2 | exact cs3) (by first | exact fun _ => trivial | (intro h; simp at h; first | exact ⟨by omega, by omega⟩ | omega)) rfl ?_
            | refine r_idx_cnd tab_ok rfl rfl rfl rfl rfl rfl rfl (by first | exact fun _ => rfl | exact cs1 | exact cs2 | exact cs3) rfl rfl (by exact ⟨by omega, by omega⟩) rfl rfl ?_
            | refine r_or rfl rfl rfl rfl rfl rfl rfl rfl ?_))
        refine awp_cond rfl (fun hc => ?_) (fun _ => ?_)
        · exfalso
          obtain ⟨q1, q2⟩ := List.getElem?_eq_some_iff.1 hO0
          simp [hOl, q2] at hc
        repeat (first
          | refine awp_seq ?_
          | refine a_region ?_
          | refine awp_skip ?_
          | (refine r_id ?_; first
            | refine r_len tab_ok rfl rfl rfl rfl rfl rfl rfl ?_
            | refine r_ev tab_ok rfl rfl rfl rfl (by first | exact trivial | exact ⟨by omega, by omega⟩ | omega | exact ⟨by omega, by omega, by omega, by omega⟩ | exact Nat.le_of_ble_eq_true rfl) rfl ?_))
        refine r_by2 (astep_make_words (n := L.length) (v := .int .i64 0) tab_ok rfl rfl rfl rfl rfl rfl rfl (by show 8 * _ ≤ _; omega) (by omega)) rfl rfl rfl rfl rfl ?_
        repeat (first
          | refine awp_seq ?_
          | refine thenA_normal ?_
          | refine awp_block ?_
          | refine a_region ?_
          | refine r_done ?_
          | (refine r_id ?_; first
            | refine r_ev tab_ok rfl rfl rfl rfl (by first | exact trivial | exact ⟨by omega, by omega⟩ | omega | exact ⟨by omega, by omega, by omega, by omega⟩ | exact Nat.le_of_ble_eq_true rfl) rfl ?_))
        refine a_loop (σ := {i : Nat // i ≤ L.length}) (fun x => [.gone, .row 0 3 1 ((neg1 L.length x.1).map iD)]) (fun x => [(3, .sl 4 (L.map rwZ)), (5, trA gs), (8, .sl 1 (O.map nD)), (9, .row 1 0), (10, .val (.int .i64 x.1))]) (fun x => L.length - x.1) ⟨0, Nat.zero_le _⟩ ?_ ?_
        · have e0 : (neg1 L.length 0).map iD = List.replicate L.length (D.val (.int .i64 0)) := by rw [neg1, List.replicate_zero, List.nil_append, Nat.sub_zero, List.map_replicate]; rfl
          dsimp only
          rw [e0]
          exact fits_conv (by repeat' first | exact trivial | exact rfl | (rw [List.map_append]; first | done | rfl) | exact c_sub rfl (Sub.refl _) rfl | exact c_nil rfl rfl | exact c_thaw rfl rfl rfl | exact c_row rfl rfl rfl | exact c_row rfl rfl (by rw [List.map_append]; first | done | rfl) | exact c_ptr rfl rfl rfl rfl | exact Or.inl ⟨c_sub rfl (Sub.refl _) rfl, c_ptr rfl rfl rfl rfl⟩ | exact c_alt rfl rfl rfl rfl | exact c_ro rfl rfl | exact c_eo rfl rfl | exact c_sub rfl (Sub.altl _ _) rfl | exact c_sub rfl (Sub.nil _) rfl | refine ⟨_, _, rfl, ?_, ?_⟩ | apply And.intro) (by repeat' first | exact trivial | exact rfl | (rw [List.map_append]; first | done | rfl) | exact c_sub rfl (Sub.refl _) rfl | exact c_nil rfl rfl | exact c_thaw rfl rfl rfl | exact c_row rfl rfl rfl | exact c_row rfl rfl (by rw [List.map_append]; first | done | rfl) | exact c_ptr rfl rfl rfl rfl | exact Or.inl ⟨c_sub rfl (Sub.refl _) rfl, c_ptr rfl rfl rfl rfl⟩ | exact c_alt rfl rfl rfl rfl | exact c_ro rfl rfl | exact c_eo rfl rfl | exact c_sub rfl (Sub.altl _ _) rfl | exact c_sub rfl (Sub.nil _) rfl | refine ⟨_, _, rfl, ?_, ?_⟩ | apply And.intro)
        rintro ⟨i, hi⟩
        dsimp only
        have hnl := neg1_len hi
        have hnm : ((neg1 L.length i).map iD).length = L.length := by rw [List.length_map, hnl]
        repeat (first
          | refine awp_seq ?_
          | refine thenA_normal ?_
          | refine a_region ?_
          | refine r_done ?_
          | (refine r_id ?_; first
            | refine r_len tab_ok rfl rfl rfl rfl rfl rfl rfl ?_
            | refine r_ev tab_ok rfl rfl rfl rfl (by first | exact trivial | exact ⟨by omega, by omega⟩ | omega | exact ⟨by omega, by omega, by omega, by omega⟩ | exact Nat.le_of_ble_eq_true rfl) rfl ?_))
        refine awp_cond_p rfl (fun hlt => ?_) (fun hge => ?_)
        · have hi' : i < L.length := by omega
          have hst := neg1_set hi'
          repeat (first
            | refine awp_seq ?_
            | refine awp_block ?_
            | refine a_region ?_
            | refine awp_skip ?_
            | (refine r_id ?_; first
              | refine r_ev tab_ok rfl rfl rfl rfl (by first | exact trivial | exact ⟨by omega, by omega⟩ | omega | exact ⟨by omega, by omega, by omega, by omega⟩ | exact Nat.le_of_ble_eq_true rfl) rfl ?_
              | refine r_idxr tab_ok rfl rfl rfl rfl rfl rfl rfl rfl (by first | exact ⟨by omega, by omega⟩ | (simp; omega)) rfl ?_))
          refine r_ste tab_ok (-1 : Int) rfl rfl rfl rfl rfl (by omega) rfl rfl rfl rfl rfl rfl ?_
          simp only [Int.toNat_natCast, List.set_cons_succ, List.set_cons_zero]
          rw [hst]
          repeat (first
            | refine thenA_normal ?_
            | refine a_region ?_
            | refine r_done ?_
            | (refine r_id ?_; first
              | refine r_ev tab_ok rfl rfl rfl rfl (by first | exact trivial | exact ⟨by omega, by omega⟩ | omega | exact ⟨by omega, by omega, by omega, by omega⟩ | exact Nat.le_of_ble_eq_true rfl) rfl ?_))
          exact ⟨⟨i + 1, by omega⟩, by dsimp only; omega, fits_of rfl (by repeat' first | exact trivial | exact Sub.refl _ | exact rfl | apply And.intro)⟩
        have : i = L.length := by omega
        subst this
        have hneg : neg1 L.length L.length = List.replicate L.length (-1) := by rw [neg1, Nat.sub_self, List.replicate_zero, List.append_nil]
        rw [hneg]
        repeat (first
          | refine awp_seq ?_
          | refine thenA_normal ?_
          | refine awp_block ?_
          | refine a_region ?_
          | refine awp_exit ?_
          | refine r_done ?_
          | (refine r_id ?_; first
            | refine r_ev tab_ok rfl rfl rfl rfl (by first | exact trivial | exact ⟨by omega, by omega⟩ | omega | exact ⟨by omega, by omega, by omega, by omega⟩ | exact Nat.le_of_ble_eq_true rfl) rfl ?_))
        refine a_loop (σ := {x : Nat × List Int // x.1 ≤ L.length ∧ Placed O L.length x.1 x.2}) (fun x => [.gone, .row 0 3 1 (x.1.2.map iD)]) (fun x => [(3, .sl 4 (L.map rwZ)), (5, trA gs), (8, .sl 1 (O.map nD)), (9, .row 1 0), (11, .val (.int .i64 x.1.1))]) (fun x => L.length - x.1.1) ⟨(0, List.replicate L.length (-1)), Nat.zero_le _, placed_0 O L.length⟩ (fits_conv (by repeat' first | exact trivial | exact rfl | (rw [List.map_append]; first | done | rfl) | exact c_sub rfl (Sub.refl _) rfl | exact c_nil rfl rfl | exact c_thaw rfl rfl rfl | exact c_row rfl rfl rfl | exact c_row rfl rfl (by rw [List.map_append]; first | done | rfl) | exact c_ptr rfl rfl rfl rfl | exact Or.inl ⟨c_sub rfl (Sub.refl _) rfl, c_ptr rfl rfl rfl rfl⟩ | exact c_alt rfl rfl rfl rfl | exact c_ro rfl rfl | exact c_eo rfl rfl | exact c_sub rfl (Sub.altl _ _) rfl | exact c_sub rfl (Sub.nil _) rfl | refine ⟨_, _, rfl, ?_, ?_⟩ | apply And.intro) (by repeat' first | exact trivial | exact rfl | (rw [List.map_append]; first | done | rfl) | exact c_sub rfl (Sub.refl _) rfl | exact c_nil rfl rfl | exact c_thaw rfl rfl rfl | exact c_row rfl rfl rfl | exact c_row rfl rfl (by rw [List.map_append]; first | done | rfl) | exact c_ptr rfl rfl rfl rfl | exact Or.inl ⟨c_sub rfl (Sub.refl _) rfl, c_ptr rfl rfl rfl rfl⟩ | exact c_alt rfl rfl rfl rfl | exact c_ro rfl rfl | exact c_eo rfl rfl | exact c_sub rfl (Sub.altl _ _) rfl | exact c_sub rfl (Sub.nil _) rfl | refine ⟨_, _, rfl, ?_, ?_⟩ | apply And.intro)) ?_
        rintro ⟨⟨j, P⟩, hj, hPl⟩
        dsimp only at hj hPl ⊢
        have hPlen := hPl.1
        have hPm : (P.map iD).length = P.length := List.length_map _
        repeat (first
          | refine awp_seq ?_
          | refine thenA_normal ?_
          | refine a_region ?_
          | refine r_done ?_
          | (refine r_id ?_; first
            | refine r_len tab_ok rfl rfl rfl rfl rfl rfl rfl ?_
            | refine r_ev tab_ok rfl rfl rfl rfl (by first | exact trivial | exact ⟨by omega, by omega⟩ | omega | exact ⟨by omega, by omega, by omega, by omega⟩ | exact Nat.le_of_ble_eq_true rfl) rfl ?_))
        refine awp_cond_p rfl (fun hlt => ?_) (fun hge => ?_)
        · have hj' : j < O.length := by omega
          obtain ⟨x, hx⟩ : ∃ x, O[j] = x := ⟨_, rfl⟩
          have hxj : O[j]? = some x := by rw [List.getElem?_eq_getElem hj', hx]
          have hxl : x < L.length := (hOm x).1 (by rw [← hx]; exact List.getElem_mem hj')
          have hnew := placed_new hPl hxj hxl hOn
          have hstep := placed_step hPl hxj hOn
          obtain ⟨hxP, hPx⟩ := List.getElem?_eq_some_iff.1 hnew
          have hOn2 := hOn
          have hjP : (j : Int) < L.length := by omega
          refine awp_skip ?_
          refine thenA_normal ?_
          refine awp_seq ?_
          refine awp_block ?_
          refine awp_seq ?_
          refine awp_cutw ⟨[.gone, .row 0 3 1 (P.map iD)], [(3, .sl 4 (L.map rwZ)), (5, trA gs), (8, .sl 1 (O.map nD)), (9, .row 1 0), (11, .val (.int .i64 j))]⟩ ?_ ?_
          · clear hOu hU hOm hOn hstep hnew hO hM hN
            rcases Nat.eq_zero_or_pos j with hj0 | hj0
            · clear hOp
              repeat (first
                | refine awp_seq ?_
                | refine a_region ?_
                | (refine r_id ?_; first
                  | refine r_ev tab_ok rfl rfl rfl rfl (by first | exact trivial | exact ⟨by omega, by omega⟩ | omega | exact ⟨by omega, by omega, by omega, by omega⟩ | exact Nat.le_of_ble_eq_true rfl) rfl ?_
                  | refine r_idx tab_ok rfl rfl rfl rfl rfl rfl rfl (by first | exact ⟨by omega, by omega⟩ | (simp; omega)) rfl rfl ?_
                  | refine r_pick_f rfl rfl rfl rfl rfl rfl rfl ?_
                  | refine r_len_on tab_ok rfl rfl rfl rfl rfl rfl rfl rfl rfl ?_
                  | refine r_ev_on tab_ok rfl rfl rfl rfl rfl rfl (by first | exact trivial | exact ⟨by omega, by omega⟩ | omega) rfl ?_)
                | refine r_g rfl rfl rfl ?_)
              try simp only [Int.toNat_natCast, hx, hPx]
              repeat (first
                | (refine r_id ?_; first
                  | refine r_ev tab_ok rfl rfl rfl rfl (by first | exact trivial | exact ⟨by omega, by omega⟩ | omega | exact ⟨by omega, by omega, by omega, by omega⟩ | exact Nat.le_of_ble_eq_true rfl) rfl ?_
                  | refine r_idx tab_ok rfl rfl rfl rfl rfl rfl rfl (by first | exact ⟨by omega, by omega⟩ | (simp; omega)) rfl rfl ?_
                  | refine r_idxr tab_ok rfl rfl rfl rfl rfl rfl rfl rfl (by first | exact ⟨by omega, by omega⟩ | (simp; omega)) rfl ?_)
                | refine r_g rfl rfl (congrArg (fun b => AV.val (.bool b)) (decide_eq_false (by omega))) ?_)
              try simp only [Int.toNat_natCast, hx, hPx]
              repeat (first
                | refine thenA_normal ?_
                | refine awp_skip ?_
                | refine r_done ?_
                | (refine r_id ?_; first
                  | refine r_ev tab_ok rfl rfl rfl rfl (by first | exact trivial | exact ⟨by omega, by omega⟩ | omega | exact ⟨by omega, by omega, by omega, by omega⟩ | exact Nat.le_of_ble_eq_true rfl) rfl ?_
                  | refine r_lde tab_ok rfl rfl rfl rfl rfl (by omega) rfl rfl rfl rfl ?_)
                | refine awp_cond_f rfl ?_
                | refine r_g rfl rfl (congrArg (fun b => AV.val (.bool b)) (decide_eq_false (by omega))) ?_
                | refine r_pick_f rfl rfl (congrArg (fun b => AV.val (.bool b)) (decide_eq_false (by omega))) rfl rfl rfl rfl ?_
                | refine r_off rfl rfl (congrArg (fun b => AV.val (.bool b)) (decide_eq_false (by omega))) rfl rfl rfl ?_)
              try simp only [Int.toNat_natCast, hx, hPx]
              try simp only [Int.toNat_natCast, hx, hPx]
              exact ⟨by first | rfl | trivial, fits_of rfl (by repeat' first | exact trivial | exact Sub.refl _ | exact rfl | apply And.intro)⟩
            · obtain ⟨q1, q2, q3, q4, k, q5, q6⟩ := hOp hxj hj0
              obtain ⟨pn, hpn⟩ : ∃ pn : Nat, (rwAt L x).parent = pn := ⟨(rwAt L x).parent.toNat, by omega⟩
              rw [hpn, Int.toNat_natCast] at q6
              have hPp := placed_old hPl q5 q6 (by omega) hOn2
              obtain ⟨hpP, hPp⟩ := List.getElem?_eq_some_iff.1 hPp
              have hLp : (L[x]'hxl).parent = (pn : Int) := by
                rw [← hpn, rwAt, List.getD_eq_getElem?_getD, List.getElem?_eq_getElem hxl]; rfl
              have hpb : pn < x := by omega
              clear hOp hPl hOn2
              repeat (first
                | refine awp_seq ?_
                | refine a_region ?_
                | (refine r_id ?_; first
                  | refine r_ev tab_ok rfl rfl rfl rfl (by first | exact trivial | exact ⟨by omega, by omega⟩ | omega | exact ⟨by omega, by omega, by omega, by omega⟩ | exact Nat.le_of_ble_eq_true rfl) rfl ?_
                  | refine r_idx tab_ok rfl rfl rfl rfl rfl rfl rfl (by first | exact ⟨by omega, by omega⟩ | (simp; omega)) rfl rfl ?_
                  | refine r_pick_f rfl rfl rfl rfl rfl rfl rfl ?_
                  | refine r_len_on tab_ok rfl rfl rfl rfl rfl rfl rfl rfl rfl ?_
                  | refine r_ev_on tab_ok rfl rfl rfl rfl rfl rfl (by first | exact trivial | exact ⟨by omega, by omega⟩ | omega) rfl ?_)
                | refine r_g rfl rfl rfl ?_)
              try simp only [Int.toNat_natCast, hx, hPx, hLp, hPp]
              repeat (first
                | (refine r_id ?_; first
                  | refine r_ev tab_ok rfl rfl rfl rfl (by first | exact trivial | exact ⟨by omega, by omega⟩ | omega | exact ⟨by omega, by omega, by omega, by omega⟩ | exact Nat.le_of_ble_eq_true rfl) rfl ?_
                  | refine r_idx tab_ok rfl rfl rfl rfl rfl rfl rfl (by first | exact ⟨by omega, by omega⟩ | (simp; omega)) rfl rfl ?_
                  | refine r_idxr tab_ok rfl rfl rfl rfl rfl rfl rfl rfl (by first | exact ⟨by omega, by omega⟩ | (simp; omega)) rfl ?_)
                | refine r_g rfl rfl (congrArg (fun b => AV.val (.bool b)) (decide_eq_false (by omega))) ?_)
              try simp only [Int.toNat_natCast, hx, hPx, hLp, hPp]
              repeat (first
                | (refine r_id ?_; first
                  | refine r_ev tab_ok rfl rfl rfl rfl (by first | exact trivial | exact ⟨by omega, by omega⟩ | omega | exact ⟨by omega, by omega, by omega, by omega⟩ | exact Nat.le_of_ble_eq_true rfl) rfl ?_
                  | refine r_idx tab_ok rfl rfl rfl rfl rfl rfl rfl (by first | exact ⟨by omega, by omega⟩ | (simp; omega)) rfl rfl ?_
                  | refine r_lde tab_ok rfl rfl rfl rfl rfl (by omega) rfl rfl rfl rfl ?_)
                | refine r_g rfl rfl (congrArg (fun b => AV.val (.bool b)) (decide_eq_true (by omega))) ?_
                | refine r_g rfl rfl (congrArg (fun b => AV.val (.bool b)) (decide_eq_false (by omega))) ?_
                | refine r_pick_f rfl rfl (congrArg (fun b => AV.val (.bool b)) (decide_eq_false (by omega))) rfl rfl rfl rfl ?_)
              try simp only [Int.toNat_natCast, hx, hPx, hLp, hPp]
              repeat (first
                | refine thenA_normal ?_
                | refine r_done ?_
                | (refine r_id ?_; first
                  | refine r_ev tab_ok rfl rfl rfl rfl (by first | exact trivial | exact ⟨by omega, by omega⟩ | omega | exact ⟨by omega, by omega, by omega, by omega⟩ | exact Nat.le_of_ble_eq_true rfl) rfl ?_
                  | refine r_pick_f rfl rfl rfl rfl rfl rfl rfl ?_
                  | refine r_idxr tab_ok rfl rfl rfl rfl rfl rfl rfl rfl (by first | exact ⟨by omega, by omega⟩ | (simp; omega)) rfl ?_
                  | refine r_lde tab_ok rfl rfl rfl rfl rfl (by omega) rfl rfl rfl rfl ?_)
                | refine r_g rfl rfl rfl ?_
                | refine r_g rfl rfl (congrArg (fun b => AV.val (.bool b)) (decide_eq_true (by omega))) ?_
                | refine r_pick_t rfl rfl (congrArg (fun b => AV.val (.bool b)) (decide_eq_true (by omega))) rfl rfl rfl rfl ?_)
              try simp only [Int.toNat_natCast, hx, hPx, hLp, hPp]
              repeat (first
                | refine awp_skip ?_
                | refine awp_cond_f rfl ?_)
              try simp only [Int.toNat_natCast, hx, hPx, hLp, hPp]
              try simp only [Int.toNat_natCast, hx, hPx, hLp, hPp]
              exact ⟨by first | rfl | trivial, fits_of rfl (by repeat' first | exact trivial | exact Sub.refl _ | exact rfl | apply And.intro)⟩
          · repeat (first
              | refine a_region ?_
              | (refine r_id ?_; first
                | refine r_ev tab_ok rfl rfl rfl rfl (by first | exact trivial | exact ⟨by omega, by omega⟩ | omega | exact ⟨by omega, by omega, by omega, by omega⟩ | exact Nat.le_of_ble_eq_true rfl) rfl ?_
                | refine r_idx tab_ok rfl rfl rfl rfl rfl rfl rfl (by first | exact ⟨by omega, by omega⟩ | (simp; omega)) rfl rfl ?_
                | refine r_idxr tab_ok rfl rfl rfl rfl rfl rfl rfl rfl (by first | exact ⟨by omega, by omega⟩ | (simp; omega)) rfl ?_))
            simp only [Int.toNat_natCast, hx]
            refine r_ste tab_ok (j : Int) rfl rfl rfl rfl rfl (by omega) rfl rfl rfl rfl rfl rfl ?_
            simp only [Int.toNat_natCast, List.set_cons_succ, List.set_cons_zero]
            repeat (first
              | refine thenA_normal ?_
              | refine a_region ?_
              | refine r_done ?_
              | (refine r_id ?_; first
                | refine r_ev tab_ok rfl rfl rfl rfl (by first | exact trivial | exact ⟨by omega, by omega⟩ | omega | exact ⟨by omega, by omega, by omega, by omega⟩ | exact Nat.le_of_ble_eq_true rfl) rfl ?_))
            exact ⟨⟨(j + 1, P.set x j), by omega, hstep⟩, by dsimp only; omega, fits_of rfl (by repeat' first | exact trivial | exact Sub.refl _ | exact rfl | apply And.intro)⟩
        have hjl : j = L.length := by omega
        subst hjl
        repeat (first
          | refine awp_seq ?_
          | refine thenA_normal ?_
          | refine awp_block ?_
          | refine a_region ?_
          | refine awp_exit ?_
          | refine r_done ?_
          | (refine r_id ?_; first
            | refine r_ev tab_ok rfl rfl rfl rfl (by first | exact trivial | exact ⟨by omega, by omega⟩ | omega | exact ⟨by omega, by omega, by omega, by omega⟩ | exact Nat.le_of_ble_eq_true rfl) rfl ?_))
        refine a_loop (σ := {i : Nat // i ≤ L.length}) (fun _ => [.gone, .row 0 3 1 (P.map iD)]) (fun x => [(3, .sl 4 (L.map rwZ)), (5, trA gs), (8, .sl 1 (O.map nD)), (9, .row 1 0), (12, .val (.int .i64 x.1))]) (fun x => L.length - x.1) ⟨0, Nat.zero_le _⟩ (fits_of rfl (by repeat' first | exact trivial | exact Sub.refl _ | exact rfl | apply And.intro)) ?_
        rintro ⟨i, hi⟩
        dsimp only
        repeat (first
          | refine awp_seq ?_
          | refine thenA_normal ?_
          | refine a_region ?_
          | refine r_done ?_
          | (refine r_id ?_; first
            | refine r_len tab_ok rfl rfl rfl rfl rfl rfl rfl ?_
            | refine r_ev tab_ok rfl rfl rfl rfl (by first | exact trivial | exact ⟨by omega, by omega⟩ | omega | exact ⟨by omega, by omega, by omega, by omega⟩ | exact Nat.le_of_ble_eq_true rfl) rfl ?_))
        refine awp_cond_p rfl (fun hlt => ?_) (fun hge => ?_)
        rotate_left
        · repeat (first
            | refine awp_seq ?_
            | refine a_region ?_
            | refine awp_exit ?_)
          refine r_call awake_ok call8 rfl rfl trivial rfl rfl rfl rfl ?_
          repeat (first
            | refine thenA_normal ?_
            | refine awp_ret ?_
            | refine r_done ?_
            | (refine r_id ?_; first
              | refine r_ev tab_ok rfl rfl rfl rfl (by first | exact trivial | exact ⟨by omega, by omega⟩ | omega | exact ⟨by omega, by omega, by omega, by omega⟩ | exact Nat.le_of_ble_eq_true rfl) rfl ?_)
            | refine ret1 (by first | exact .inl rfl | exact .inr rfl) rfl rfl rfl ?_)
          exact Sub.refl _
        have hi' : i < L.length := by omega
        repeat (first
          | refine awp_seq ?_
          | refine thenA_normal ?_
          | refine awp_block ?_
          | refine a_region ?_
          | refine awp_skip ?_
          | refine r_done ?_
          | (refine r_id ?_; first
            | refine r_ev tab_ok rfl rfl rfl rfl (by first | exact trivial | exact ⟨by omega, by omega⟩ | omega | exact ⟨by omega, by omega, by omega, by omega⟩ | exact Nat.le_of_ble_eq_true rfl) rfl ?_))
        refine a_loop (σ := {k : Nat // k ≤ L.length}) (fun _ => [.gone, .row 0 3 1 (P.map iD)]) (fun x => [(3, .sl 4 (L.map rwZ)), (5, trA gs), (8, .sl 1 (O.map nD)), (9, .row 1 0), (12, .val (.int .i64 i)), (13, .val (.int .i64 (((List.range x.1).filter fun k => under L k i).length : Nat))), (14, .val (.int .i64 x.1))]) (fun x => L.length - x.1) ⟨0, Nat.zero_le _⟩ (fits_of rfl (by repeat' first | exact trivial | exact Sub.refl _ | exact rfl | apply And.intro)) ?_
        rintro ⟨k, hk⟩
        dsimp only
        have hcl : ((List.range k).filter fun k => under L k i).length ≤ k := by
          have := List.length_filter_le (fun k => under L k i) (List.range k)
          rwa [List.length_range] at this
        have hcs := filter_range_succ_len (fun k => under L k i) k
        repeat (first
          | refine awp_seq ?_
          | refine thenA_normal ?_
          | refine a_region ?_
          | refine r_done ?_
          | (refine r_id ?_; first
            | refine r_len tab_ok rfl rfl rfl rfl rfl rfl rfl ?_
            | refine r_ev tab_ok rfl rfl rfl rfl (by first | exact trivial | exact ⟨by omega, by omega⟩ | omega | exact ⟨by omega, by omega, by omega, by omega⟩ | exact Nat.le_of_ble_eq_true rfl) rfl ?_))
        refine awp_cond_p rfl (fun hlk => ?_) (fun hgk => ?_)
        · have hk' : k < L.length := by omega
          have cU := hU k i hk' hi'
          cases hb : under L k i with
          | true =>
            rw [hb] at cU hcs
            repeat (first
              | refine awp_seq ?_
              | refine awp_block ?_
              | refine a_region ?_
              | refine awp_skip ?_
              | (refine r_id ?_; first
                | refine r_ev tab_ok rfl rfl rfl rfl (by first | exact trivial | exact ⟨by omega, by omega⟩ | omega | exact ⟨by omega, by omega, by omega, by omega⟩ | exact Nat.le_of_ble_eq_true rfl) rfl ?_))
            refine r_call cU call13 rfl rfl ⟨Sub.refl _, Sub.refl _, Sub.refl _, trivial⟩ rfl rfl rfl rfl ?_
            repeat (first
              | refine thenA_normal ?_
              | refine a_region ?_
              | refine r_done ?_
              | (refine r_id ?_; first
                | refine r_ev tab_ok rfl rfl rfl rfl (by first | exact trivial | exact ⟨by omega, by omega⟩ | omega | exact ⟨by omega, by omega, by omega, by omega⟩ | exact Nat.le_of_ble_eq_true rfl) rfl ?_)
              | refine awp_cond_t rfl ?_)
            exact ⟨⟨k + 1, by omega⟩, by dsimp only; omega, fits_of rfl ⟨Sub.refl _, Sub.refl _, Sub.refl _, Sub.refl _, Sub.refl _, Sub.of_eq (by dsimp only; rw [hcs]; rfl), Sub.refl _, trivial⟩⟩
          | false =>
            rw [hb] at cU hcs
            repeat (first
              | refine awp_seq ?_
              | refine awp_block ?_
              | refine a_region ?_
              | refine awp_skip ?_
              | (refine r_id ?_; first
                | refine r_ev tab_ok rfl rfl rfl rfl (by first | exact trivial | exact ⟨by omega, by omega⟩ | omega | exact ⟨by omega, by omega, by omega, by omega⟩ | exact Nat.le_of_ble_eq_true rfl) rfl ?_))
            refine r_call cU call13 rfl rfl ⟨Sub.refl _, Sub.refl _, Sub.refl _, trivial⟩ rfl rfl rfl rfl ?_
            repeat (first
              | refine thenA_normal ?_
              | refine a_region ?_
              | refine awp_skip ?_
              | refine r_done ?_
              | (refine r_id ?_; first
                | refine r_ev tab_ok rfl rfl rfl rfl (by first | exact trivial | exact ⟨by omega, by omega⟩ | omega | exact ⟨by omega, by omega, by omega, by omega⟩ | exact Nat.le_of_ble_eq_true rfl) rfl ?_)
              | refine awp_cond_f rfl ?_)
            exact ⟨⟨k + 1, by omega⟩, by dsimp only; omega, fits_of rfl ⟨Sub.refl _, Sub.refl _, Sub.refl _, Sub.refl _, Sub.refl _, Sub.of_eq (by dsimp only; rw [hcs]; rfl), Sub.refl _, trivial⟩⟩
        have : k = L.length := by omega
        subst this
        have hcnt := under_cnt hp hi'
        rw [hcnt] at hcl ⊢
        obtain ⟨pi, hpi⟩ := List.mem_iff_getElem?.1 ((hOm i).2 hi')
        obtain ⟨hpil, _⟩ := List.getElem?_eq_some_iff.1 hpi
        have hPi := placed_old hPl (by omega) hpi hi' hOn
        obtain ⟨hPil, hPi⟩ := List.getElem?_eq_some_iff.1 hPi
        obtain ⟨m, hm⟩ : ∃ m, m = (walkP L i).length := ⟨_, rfl⟩
        have hOu' : ∀ {t : Nat}, t < m → ∃ x, O[pi + t]? = some x ∧ x < L.length ∧ under L x i = true := fun h => hOu hi' hpi (by omega)
        rw [← hm] at hcl ⊢
        repeat (first
          | refine awp_seq ?_
          | refine thenA_normal ?_
          | refine awp_block ?_
          | refine a_region ?_
          | refine awp_exit ?_
          | refine r_done ?_
          | (refine r_id ?_; first
            | refine r_ev tab_ok rfl rfl rfl rfl (by first | exact trivial | exact ⟨by omega, by omega⟩ | omega | exact ⟨by omega, by omega, by omega, by omega⟩ | exact Nat.le_of_ble_eq_true rfl) rfl ?_
            | refine r_idxr tab_ok rfl rfl rfl rfl rfl rfl rfl rfl (by first | exact ⟨by omega, by omega⟩ | (simp; omega)) rfl ?_
            | refine r_lde tab_ok rfl rfl rfl rfl rfl (by omega) rfl rfl rfl rfl ?_))
        simp only [Int.toNat_natCast, hPi]
        refine a_loop (σ := {t : Nat // t ≤ m}) (fun _ => [.gone, .row 0 3 1 (P.map iD)]) (fun x => [(3, .sl 4 (L.map rwZ)), (5, trA gs), (8, .sl 1 (O.map nD)), (9, .row 1 0), (12, .val (.int .i64 i)), (13, .val (.int .i64 m)), (15, .val (.int .i64 (pi + x.1 : Nat)))]) (fun x => m - x.1) ⟨0, Nat.zero_le _⟩ (fits_of rfl (by repeat' first | exact trivial | exact Sub.refl _ | exact rfl | apply And.intro)) ?_
        rintro ⟨t, ht⟩
        dsimp only
        repeat (first
          | refine awp_seq ?_
          | refine a_region ?_
          | (refine r_id ?_; first
            | refine r_ev tab_ok rfl rfl rfl rfl (by first | exact trivial | exact ⟨by omega, by omega⟩ | omega | exact ⟨by omega, by omega, by omega, by omega⟩ | exact Nat.le_of_ble_eq_true rfl) rfl ?_
            | refine r_idxr tab_ok rfl rfl rfl rfl rfl rfl rfl rfl (by first | exact ⟨by omega, by omega⟩ | (simp; omega)) rfl ?_
            | refine r_lde tab_ok rfl rfl rfl rfl rfl (by omega) rfl rfl rfl rfl ?_))
        simp only [Int.toNat_natCast, hPi]
        repeat (first
          | refine thenA_normal ?_
          | refine r_done ?_
          | (refine r_id ?_; first
            | refine r_ev tab_ok rfl rfl rfl rfl (by first | exact trivial | exact ⟨by omega, by omega⟩ | omega | exact ⟨by omega, by omega, by omega, by omega⟩ | exact Nat.le_of_ble_eq_true rfl) rfl ?_))
        refine awp_cond_p rfl (fun hlt2 => ?_) (fun hge2 => ?_)
        · have ht' : t < m := by omega
          obtain ⟨x, hx, hxl, hxu⟩ := hOu' ht'
          obtain ⟨hxo, hx⟩ := List.getElem?_eq_some_iff.1 hx
          have cU := hU x i hxl hi'
          rw [hxu] at cU
          repeat (first
            | refine awp_seq ?_
            | refine awp_block ?_
            | refine a_region ?_
            | refine awp_skip ?_
            | (refine r_id ?_; first
              | refine r_len tab_ok rfl rfl rfl rfl rfl rfl rfl ?_
              | refine r_ev tab_ok rfl rfl rfl rfl (by first | exact trivial | exact ⟨by omega, by omega⟩ | omega | exact ⟨by omega, by omega, by omega, by omega⟩ | exact Nat.le_of_ble_eq_true rfl) rfl ?_
              | refine r_idx tab_ok rfl rfl rfl rfl rfl rfl rfl (by first | exact ⟨by omega, by omega⟩ | (simp; omega)) rfl rfl ?_)
            | refine r_g rfl rfl (congrArg (fun b => AV.val (.bool b)) (decide_eq_false (by omega))) ?_)
          simp only [Int.toNat_natCast, hx]
          refine r_call cU call13 rfl rfl ⟨Sub.refl _, Sub.refl _, Sub.refl _, trivial⟩ rfl rfl rfl rfl ?_
          repeat (first
            | refine thenA_normal ?_
            | refine a_region ?_
            | refine awp_skip ?_
            | refine r_done ?_
            | (refine r_id ?_; first
              | refine r_ev tab_ok rfl rfl rfl rfl (by first | exact trivial | exact ⟨by omega, by omega⟩ | omega | exact ⟨by omega, by omega, by omega, by omega⟩ | exact Nat.le_of_ble_eq_true rfl) rfl ?_)
            | refine awp_cond_f rfl ?_
            | refine r_g rfl rfl (congrArg (fun b => AV.val (.bool b)) (decide_eq_false (by omega))) ?_
            | refine r_pick_f rfl rfl (congrArg (fun b => AV.val (.bool b)) (decide_eq_false (by omega))) rfl rfl rfl rfl ?_)
          exact ⟨⟨t + 1, by omega⟩, by dsimp only; omega, fits_of rfl (by repeat' first | exact trivial | exact Sub.refl _ | exact rfl | apply And.intro)⟩
        · repeat (first
            | refine thenA_normal ?_
            | refine a_region ?_
            | refine awp_exit ?_
            | refine r_done ?_
            | (refine r_id ?_; first
              | refine r_ev tab_ok rfl rfl rfl rfl (by first | exact trivial | exact ⟨by omega, by omega⟩ | omega | exact ⟨by omega, by omega, by omega, by omega⟩ | exact Nat.le_of_ble_eq_true rfl) rfl ?_))
          exact ⟨⟨i + 1, by omega⟩, by dsimp only; omega, fits_of rfl (by repeat' first | exact trivial | exact Sub.refl _ | exact rfl | apply And.intro)⟩
end Go.Proofs.Ytklodolkgdmhoaa
