import Derived.Test.YtklodolkgdmhoaaW2
import Derived.Test.YtklodolkgdmhoaaJa
import Derived.Test.YtklodolkgdmhoaaWd
/- dom: lower. -/
namespace Go.Proofs.Ytklodolkgdmhoaa
open Go Go.RowKit

theorem subs_refl : ∀ l : List AV, Subs l l
  | [] => trivial
  | x :: l => ⟨Sub.refl x, subs_refl l⟩
/-- slices.IndexFunc: the first place, or -1. -/
def findR {α : Type} (p : α → Bool) (l : List α) : Int := if l.findIdx p < l.length then l.findIdx p else -1
theorem findR_any {α : Type} (p : α → Bool) (l : List α) : decide (0 ≤ findR p l) = l.any p := by
  rw [findR]
  rw [Bool.eq_iff_iff, decide_eq_true_eq, List.any_eq_true, ← List.findIdx_lt_length]
  split <;> simp_all
theorem find_at_ok (l : List At) (p : At → Bool) (f : FuncId) (caps : List AV) (hl : l.length ≤ 4611686018427387904) (hcall : Callable Try.prog f) (hcf : AV.frees caps = true) (hp : ∀ s ∈ l, PCalls Try.prog f (atA s :: caps) (.val (.bool (p s)))) :
    PCalls Try.prog 60 [.sl 2 (l.map atD), .cl f caps] (.val (.int .i64 (findR p l))) := by
  refine p_start Try.func60 Try.ntmps60 rfl rfl rfl fun S w => ?_
  repeat (first
    | refine awp_seq ?_
    | refine thenA_normal ?_
    | refine awp_block ?_
    | refine a_region ?_
    | refine r_done ?_
    | (refine r_id ?_; first
      | refine r_len tab_ok rfl rfl rfl rfl rfl rfl rfl ?_
      | refine r_ev tab_ok rfl rfl rfl rfl (by first | exact trivial | exact ⟨by omega, by omega⟩ | omega | exact ⟨by omega, by omega, by omega, by omega⟩ | exact Nat.le_of_ble_eq_true rfl) rfl ?_))
  refine a_loop (σ := {i : Nat // i ≤ l.findIdx p}) (fun _ => []) (fun x => [(0, .sl 2 (l.map atD)), (1, .cl f caps), (7, .val (.int .i64 l.length)), (8, .val (.int .i64 x.1))]) (fun x => l.length - x.1) ⟨0, Nat.zero_le _⟩
    (fits_of rfl ⟨Sub.refl _, Sub.refl _, Sub.refl _, Sub.refl _, trivial⟩) ?_
  rintro ⟨i, hi⟩
  dsimp only
  have hle := List.findIdx_le_length (p := p) (xs := l)
  repeat (first
    | refine awp_seq ?_
    | refine a_region ?_
    | refine r_done ?_
    | (refine r_id ?_; first
      | refine r_ev tab_ok rfl rfl rfl rfl (by first | exact trivial | exact ⟨by omega, by omega⟩ | omega | exact ⟨by omega, by omega, by omega, by omega⟩ | exact Nat.le_of_ble_eq_true rfl) rfl ?_))
  refine awp_cond_p rfl (fun hlt => ?_) (fun hge => ?_)
  · have hi' : i < l.length := by omega
    repeat (first
      | refine awp_seq ?_
      | refine awp_block ?_
      | refine a_region ?_
      | refine awp_skip ?_
      | refine r_done ?_
      | (refine r_id ?_; first
        | refine r_ev tab_ok rfl rfl rfl rfl (by first | exact trivial | exact ⟨by omega, by omega⟩ | omega | exact ⟨by omega, by omega, by omega, by omega⟩ | exact Nat.le_of_ble_eq_true rfl) rfl ?_
        | refine r_idx tab_ok rfl rfl rfl rfl rfl rfl rfl (by first | exact ⟨by omega, by omega⟩ | (simp; omega)) rfl rfl ?_))
    simp only [Int.toNat_natCast]
    refine r_callv (hp l[i] (List.getElem_mem hi')) hcall rfl rfl rfl ⟨Sub.refl _, subs_refl _⟩ (by simp [AV.frees, AV.free, atA, hcf]) rfl rfl rfl ?_
    repeat (first
      | refine thenA_normal ?_
      | refine r_done ?_)
    refine awp_cond rfl (fun hb => ?_) (fun hb => ?_)
    · repeat (first
        | refine awp_seq ?_
        | refine thenA_normal ?_
        | refine a_region ?_
        | refine awp_ret ?_
        | refine thenA_ret ?_
        | refine blockA_ret ?_
        | refine r_done ?_
        | (refine r_id ?_; first
          | refine r_ev tab_ok rfl rfl rfl rfl (by first | exact trivial | exact ⟨by omega, by omega⟩ | omega | exact ⟨by omega, by omega, by omega, by omega⟩ | exact Nat.le_of_ble_eq_true rfl) rfl ?_)
        | refine ret1 (by first | exact .inl rfl | exact .inr rfl) rfl rfl rfl ?_)
      have : l.findIdx p = i := by
        rcases Nat.lt_or_eq_of_le hi with h | h
        · have := List.not_of_lt_findIdx h
          simp_all
        · exact h.symm
      exact Sub.of_eq (by rw [findR, if_pos (by omega), this])
    · have : l.findIdx p ≠ i := fun h => by
        have := List.findIdx_getElem (p := p) (xs := l) (w := by omega)
        simp only [h] at this
        simp_all
      repeat (first
        | refine thenA_normal ?_
        | refine a_region ?_
        | refine awp_skip ?_
        | refine r_done ?_
        | (refine r_id ?_; first
          | refine r_ev tab_ok rfl rfl rfl rfl (by first | exact trivial | exact ⟨by omega, by omega⟩ | omega | exact ⟨by omega, by omega, by omega, by omega⟩ | exact Nat.le_of_ble_eq_true rfl) rfl ?_))
      exact ⟨⟨i + 1, by omega⟩, by dsimp only; omega, fits_of rfl ⟨Sub.refl _, Sub.refl _, Sub.refl _, Sub.refl _, trivial⟩⟩
  · repeat (first
      | refine awp_seq ?_
      | refine thenA_normal ?_
      | refine a_region ?_
      | refine awp_ret ?_
      | refine awp_exit ?_
      | refine r_done ?_
      | (refine r_id ?_; first
        | refine r_ev tab_ok rfl rfl rfl rfl (by first | exact trivial | exact ⟨by omega, by omega⟩ | omega | exact ⟨by omega, by omega, by omega, by omega⟩ | exact Nat.le_of_ble_eq_true rfl) rfl ?_)
      | refine ret1 (by first | exact .inl rfl | exact .inr rfl) rfl rfl rfl ?_)
    exact Sub.of_eq (by rw [findR, if_neg (by omega)])
theorem contains_at_ok (l : List At) (p : At → Bool) (f : FuncId) (caps : List AV) (hl : l.length ≤ 4611686018427387904) (hcall : Callable Try.prog f) (hcf : AV.frees caps = true) (hp : ∀ s ∈ l, PCalls Try.prog f (atA s :: caps) (.val (.bool (p s)))) :
    PCalls Try.prog 50 [.sl 2 (l.map atD), .cl f caps] (.val (.bool (l.any p))) := by
  refine p_start Try.func50 Try.ntmps50 rfl rfl rfl fun S w => ?_
  repeat (first
    | refine awp_seq ?_
    | refine a_region ?_
    | refine r_done ?_
    | (refine r_id ?_; first
      | refine r_ev tab_ok rfl rfl rfl rfl (by first | exact trivial | exact ⟨by omega, by omega⟩ | omega | exact ⟨by omega, by omega, by omega, by omega⟩ | exact Nat.le_of_ble_eq_true rfl) rfl ?_))
  refine r_call (find_at_ok l p f caps hl hcall hcf hp) call60 rfl rfl ⟨Sub.refl _, Sub.refl _, trivial⟩ (by simp [AV.frees, AV.free, hcf]) rfl rfl rfl ?_
  repeat (first
    | refine thenA_normal ?_
    | refine awp_ret ?_
    | refine r_done ?_
    | (refine r_id ?_; first
      | refine r_ev tab_ok rfl rfl rfl rfl (by first | exact trivial | exact ⟨by omega, by omega⟩ | omega | exact ⟨by omega, by omega, by omega, by omega⟩ | exact Nat.le_of_ble_eq_true rfl) rfl ?_)
    | refine ret1 (by first | exact .inl rfl | exact .inr rfl) rfl rfl rfl ?_)
  exact Sub.of_eq (by rw [← findR_any])
theorem lower1_ok (x : At) (n v : ByteArray) : PCalls Try.prog 51 [atA x, .dptr [.val (.string n), .val (.string v)]] (.val (.bool (decide (x.name = n)))) := by
  refine p_start Try.func51 Try.ntmps51 rfl rfl rfl fun S w => ?_
  repeat (first
    | refine awp_seq ?_
    | refine thenA_normal ?_
    | refine a_region ?_
    | refine awp_ret ?_
    | refine r_done ?_
    | (refine r_id ?_; first
      | refine r_ev tab_ok rfl rfl rfl rfl (by first | exact trivial | exact ⟨by omega, by omega⟩ | omega | exact ⟨by omega, by omega, by omega, by omega⟩ | exact Nat.le_of_ble_eq_true rfl) rfl ?_
      | refine r_ld tab_ok rfl rfl rfl rfl rfl ?_
      | refine r_wr tab_ok rfl rfl rfl rfl rfl ?_)
    | refine ret1 (by first | exact .inl rfl | exact .inr rfl) rfl rfl rfl ?_)
  exact Sub.refl _
theorem lowA_len (b : Bool) : ∀ (l acc : List At), (lowA b acc l).length ≤ acc.length + l.length
  | [], acc => Nat.le_refl _
  | a :: r, acc => by
    rw [lowA, List.length_cons]
    refine Nat.le_trans (lowA_len b r _) ?_
    split
    · omega
    · rw [List.length_append, List.length_singleton]; omega
structure LS (b : Bool) (l : List At) where
  i : Nat
  acc : List At
  hi : i ≤ l.length
  ha : acc.length ≤ i
  eq : lowA b acc (l.drop i) = lowA b [] l
set_option maxHeartbeats 2000000 in
theorem low_ok (r : Rw) (h : smR r) : PCalls Try.prog 32 [rwA r] (rwA (lowR r)) := by
  obtain ⟨parent, tag, text, attrs⟩ := r
  obtain ⟨h1, h2, h3⟩ := h
  dsimp only at h1 h2 h3
  refine p_start Try.func32 Try.ntmps32 rfl rfl rfl fun S w => ?_
  have hlm : (attrs.map atD).length = attrs.length := List.length_map _
  repeat (first
    | refine awp_seq ?_
    | refine a_region ?_
    | refine r_done ?_
    | (refine r_id ?_; first
      | refine r_ev tab_ok rfl rfl rfl rfl (by first | exact trivial | exact ⟨by omega, by omega⟩ | omega | exact ⟨by omega, by omega, by omega, by omega⟩ | exact Nat.le_of_ble_eq_true rfl) rfl ?_
      | refine r_ld tab_ok rfl rfl rfl rfl rfl ?_
      | refine r_wr tab_ok rfl rfl rfl rfl rfl ?_))
  refine r_call (lower_ok tag (by omega)) call49 rfl rfl ⟨Sub.refl _, trivial⟩ rfl rfl rfl rfl ?_
  repeat (first
    | refine awp_seq ?_
    | refine thenA_normal ?_
    | refine awp_block ?_
    | refine a_region ?_
    | refine r_done ?_
    | (refine r_id ?_; first
      | refine r_len tab_ok rfl rfl rfl rfl rfl rfl rfl ?_
      | refine r_ev tab_ok rfl rfl rfl rfl (by first | exact trivial | exact ⟨by omega, by omega⟩ | omega | exact ⟨by omega, by omega, by omega, by omega⟩ | exact Nat.le_of_ble_eq_true rfl) rfl ?_
      | refine r_st tab_ok rfl rfl rfl rfl ?_))
  refine a_loop (σ := LS (decide (lowS tag = emS)) attrs) (fun x => [.box 26 [.val (.int .i64 parent), .val (.string (lowS tag)), .val (.string text), .row 2 0], .box 26 [.val (.int .i64 0), .val (.string ⟨#[]⟩), .val (.string ⟨#[]⟩), .val (.slice none 0 0)], .row 0 42 2 (x.acc.map atD)])
    (fun x => [(1, .ptr 0 0), (2, .ptr 1 0), (14, .sl 2 (attrs.map atD)), (15, .val (.int .i64 attrs.length)), (16, .val (.int .i64 x.i))]) (fun x => attrs.length - x.i) ⟨0, [], Nat.zero_le _, Nat.le_refl _, rfl⟩ (fits_conv (by repeat' first | exact trivial | exact rfl | (rw [List.map_append]; first | done | rfl) | exact c_sub rfl (Sub.refl _) rfl | exact c_nil rfl rfl | exact c_thaw rfl rfl rfl | exact c_row rfl rfl rfl | exact c_row rfl rfl (by rw [List.map_append]; first | done | rfl) | exact c_ptr rfl rfl rfl rfl | exact Or.inl ⟨c_sub rfl (Sub.refl _) rfl, c_ptr rfl rfl rfl rfl⟩ | exact c_alt rfl rfl rfl rfl | exact c_ro rfl rfl | exact c_eo rfl rfl | exact c_sub rfl (Sub.altl _ _) rfl | exact c_sub rfl (Sub.nil _) rfl | refine ⟨_, _, rfl, ?_, ?_⟩ | apply And.intro) (by repeat' first | exact trivial | exact rfl | (rw [List.map_append]; first | done | rfl) | exact c_sub rfl (Sub.refl _) rfl | exact c_nil rfl rfl | exact c_thaw rfl rfl rfl | exact c_row rfl rfl rfl | exact c_row rfl rfl (by rw [List.map_append]; first | done | rfl) | exact c_ptr rfl rfl rfl rfl | exact Or.inl ⟨c_sub rfl (Sub.refl _) rfl, c_ptr rfl rfl rfl rfl⟩ | exact c_alt rfl rfl rfl rfl | exact c_ro rfl rfl | exact c_eo rfl rfl | exact c_sub rfl (Sub.altl _ _) rfl | exact c_sub rfl (Sub.nil _) rfl | refine ⟨_, _, rfl, ?_, ?_⟩ | apply And.intro)) ?_
  rintro ⟨i, acc, hi, ha, heq⟩
  dsimp only
  repeat (first
    | refine awp_seq ?_
    | refine a_region ?_
    | refine r_done ?_
    | (refine r_id ?_; first
      | refine r_ev tab_ok rfl rfl rfl rfl (by first | exact trivial | exact ⟨by omega, by omega⟩ | omega | exact ⟨by omega, by omega, by omega, by omega⟩ | exact Nat.le_of_ble_eq_true rfl) rfl ?_))
  refine awp_cond_p rfl (fun hlt => ?_) (fun hge => ?_)
  · have hi' : i < attrs.length := by omega
    have hs := h3 attrs[i] (List.getElem_mem hi')
    repeat (first
      | refine awp_seq ?_
      | refine awp_block ?_
      | refine a_region ?_
      | refine awp_skip ?_
      | refine r_done ?_
      | (refine r_id ?_; first
        | refine r_ev tab_ok rfl rfl rfl rfl (by first | exact trivial | exact ⟨by omega, by omega⟩ | omega | exact ⟨by omega, by omega, by omega, by omega⟩ | exact Nat.le_of_ble_eq_true rfl) rfl ?_
        | refine r_ld tab_ok rfl rfl rfl rfl rfl ?_
        | refine r_idx tab_ok rfl rfl rfl rfl rfl rfl rfl (by first | exact ⟨by omega, by omega⟩ | (simp; omega)) rfl rfl ?_
        | refine r_wr tab_ok rfl rfl rfl rfl rfl ?_
        | refine r_st tab_ok rfl rfl rfl rfl ?_))
    simp only [Int.toNat_natCast]
    obtain ⟨s1, s2⟩ := hs
    have hdr : attrs.drop i = attrs[i] :: attrs.drop (i + 1) := List.drop_eq_getElem_cons hi'
    rw [hdr, lowA] at heq
    generalize attrs[i] = a at s1 s2 heq ⊢
    refine r_call (lower_ok a.name (by omega)) call49 rfl rfl ⟨Sub.refl _, trivial⟩ rfl rfl rfl rfl ?_
    repeat (first
      | refine awp_seq ?_
      | refine r_done ?_
      | (refine r_id ?_; first
        | refine r_ev tab_ok rfl rfl rfl rfl (by first | exact trivial | exact ⟨by omega, by omega⟩ | omega | exact ⟨by omega, by omega, by omega, by omega⟩ | exact Nat.le_of_ble_eq_true rfl) rfl ?_
        | refine r_st tab_ok rfl rfl rfl rfl ?_))
    refine awp_fits (fits_sinkp (i := 3) (d := 5) (T := 42) (l := [.val (.string (lowS a.name)), .val (.string a.value)]) rfl rfl rfl) ?_
    repeat (first
      | refine a_region ?_
      | (refine r_id ?_; first
        | refine r_ev tab_ok rfl rfl rfl rfl (by first | exact trivial | exact ⟨by omega, by omega⟩ | omega | exact ⟨by omega, by omega, by omega, by omega⟩ | exact Nat.le_of_ble_eq_true rfl) rfl ?_
        | refine r_ld tab_ok rfl rfl rfl rfl rfl ?_
        | refine r_mkfn rfl rfl rfl rfl rfl rfl ?_))
    refine r_mro [2] (mcalls_lend (xs := [.row 0 0, .cl 51 [.dptr [.val (.string (lowS a.name)), .val (.string a.value)]]]) (M0 := [.row 0 42 2 (acc.map atD)]) (contains_at_ok acc (fun x => decide (x.name = lowS a.name)) 51 [.dptr [.val (.string (lowS a.name)), .val (.string a.value)]] (by omega) call51 rfl (fun x _ => lower1_ok x _ _)) ⟨.inr ⟨0, 0, _, 2, _, rfl, rfl, rfl⟩, .inl ⟨rfl, rfl⟩, trivial⟩ rfl) call50 rfl rfl ⟨rfl, trivial⟩ (by decide) ⟨Sub.refl _, Sub.refl _, trivial⟩ rfl rfl rfl rfl rfl rfl ?_
    generalize (acc.any fun x => decide (x.name = lowS a.name)) = met at heq ⊢
    generalize hte : decide (lowS tag = emS) = te at heq ⊢
    cases met
    · rw [Bool.false_or] at heq
      repeat (first
        | refine awp_seq ?_
        | refine thenA_normal ?_
        | refine a_region ?_
        | refine r_done ?_
        | (refine r_id ?_; first
          | refine r_ev tab_ok rfl rfl rfl rfl (by first | exact trivial | exact ⟨by omega, by omega⟩ | omega | exact ⟨by omega, by omega, by omega, by omega⟩ | exact Nat.le_of_ble_eq_true rfl) rfl ?_
          | refine r_ev_cnd tab_ok rfl rfl rfl rfl rfl rfl (by first | exact fun _ => rfl | exact cs1 | exact cs2 | exact cs3) (by first | exact fun _ => trivial | (intro h; simp at h; first | exact ⟨by omega, by omega⟩ | omega)) rfl ?_
          | refine r_ld_cnd tab_ok rfl rfl rfl rfl rfl rfl (by first | exact fun _ => rfl | exact cs1 | exact cs2 | exact cs3) rfl ?_
          | refine r_and rfl rfl rfl rfl rfl rfl rfl rfl ?_))
      refine awp_cond_n (p := lowS tag = emS) rfl (fun hne => ?_) (fun he => ?_)
      · rw [decide_eq_false hne] at hte
        subst hte
        rw [if_neg Bool.false_ne_true] at heq
        have hlm2 : (acc.map atD).length = acc.length := List.length_map _
        have hmap : (acc ++ [(⟨lowS a.name, a.value⟩ : At)]).map atD = acc.map atD ++ [atD ⟨lowS a.name, a.value⟩] := List.map_append
        repeat (first
          | refine thenA_normal ?_
          | refine a_region ?_
          | refine r_done ?_
          | (refine r_id ?_; first
            | refine r_ev tab_ok rfl rfl rfl rfl (by first | exact trivial | exact ⟨by omega, by omega⟩ | omega | exact ⟨by omega, by omega, by omega, by omega⟩ | exact Nat.le_of_ble_eq_true rfl) rfl ?_
            | refine r_ld tab_ok rfl rfl rfl rfl rfl ?_
            | refine r_st tab_ok rfl rfl rfl rfl ?_
            | refine r_built tab_ok rfl rfl rfl rfl rfl rfl rfl rfl rfl ?_
            | refine r_append tab_ok rfl rfl rfl rfl rfl rfl rfl rfl rfl (by first | omega | (simp; omega)) rfl ?_))
        refine ⟨⟨i + 1, acc ++ [⟨lowS a.name, a.value⟩], by omega, by rw [List.length_append, List.length_singleton]; omega, heq⟩, by dsimp only; omega, ?_⟩
        dsimp only
        rw [hmap]
        exact fits_tr (s' := ⟨[.box 26 [.val (.int .i64 parent), .val (.string (lowS tag)), .val (.string text), .row 2 2], .box 26 [.val (.int .i64 0), .val (.string ⟨#[]⟩), .val (.string ⟨#[]⟩), .val (.slice none 0 0)], .row 2 42 2 (acc.map atD ++ [atD ⟨lowS a.name, a.value⟩])], [(1, .ptr 0 0), (2, .ptr 1 0), (14, .sl 2 (attrs.map atD)), (15, .val (.int .i64 attrs.length)), (16, .val (.int .i64 (i + 1 : Int)))]⟩)
          (fits_drop 3 rfl rfl (by repeat' first | exact trivial | exact Sub.refl _ | exact rfl | apply And.intro)) (fits_conv (by repeat' first | exact trivial | exact rfl | (rw [List.map_append]; first | done | rfl) | exact c_sub rfl (Sub.refl _) rfl | exact c_nil rfl rfl | exact c_thaw rfl rfl rfl | exact c_row rfl rfl rfl | exact c_row rfl rfl (by rw [List.map_append]; first | done | rfl) | exact c_ptr rfl rfl rfl rfl | exact Or.inl ⟨c_sub rfl (Sub.refl _) rfl, c_ptr rfl rfl rfl rfl⟩ | exact c_alt rfl rfl rfl rfl | exact c_ro rfl rfl | exact c_eo rfl rfl | exact c_sub rfl (Sub.altl _ _) rfl | exact c_sub rfl (Sub.nil _) rfl | refine ⟨_, _, rfl, ?_, ?_⟩ | apply And.intro) (by repeat' first | exact trivial | exact rfl | (rw [List.map_append]; first | done | rfl) | exact c_sub rfl (Sub.refl _) rfl | exact c_nil rfl rfl | exact c_thaw rfl rfl rfl | exact c_row rfl rfl rfl | exact c_row rfl rfl (by rw [List.map_append]; first | done | rfl) | exact c_ptr rfl rfl rfl rfl | exact Or.inl ⟨c_sub rfl (Sub.refl _) rfl, c_ptr rfl rfl rfl rfl⟩ | exact c_alt rfl rfl rfl rfl | exact c_ro rfl rfl | exact c_eo rfl rfl | exact c_sub rfl (Sub.altl _ _) rfl | exact c_sub rfl (Sub.nil _) rfl | refine ⟨_, _, rfl, ?_, ?_⟩ | apply And.intro))
      · rw [decide_eq_true he] at hte
        subst hte
        rw [if_pos rfl] at heq
        repeat (first
          | refine thenA_normal ?_
          | refine a_region ?_
          | refine awp_skip ?_
          | refine r_done ?_
          | (refine r_id ?_; first
            | refine r_ev tab_ok rfl rfl rfl rfl (by first | exact trivial | exact ⟨by omega, by omega⟩ | omega | exact ⟨by omega, by omega, by omega, by omega⟩ | exact Nat.le_of_ble_eq_true rfl) rfl ?_))
        exact ⟨⟨i + 1, acc, by omega, by omega, heq⟩, by dsimp only; omega, fits_drop 3 rfl rfl (by repeat' first | exact trivial | exact Sub.refl _ | exact rfl | apply And.intro)⟩
    · rw [Bool.true_or, if_pos rfl] at heq
      repeat (first
        | refine awp_seq ?_
        | refine thenA_normal ?_
        | refine a_region ?_
        | refine awp_skip ?_
        | refine r_done ?_
        | (refine r_id ?_; first
          | refine r_ev tab_ok rfl rfl rfl rfl (by first | exact trivial | exact ⟨by omega, by omega⟩ | omega | exact ⟨by omega, by omega, by omega, by omega⟩ | exact Nat.le_of_ble_eq_true rfl) rfl ?_
          | refine r_ev_cnd tab_ok rfl rfl rfl rfl rfl rfl (by first | exact fun _ => rfl | exact cs1 | exact cs2 | exact cs3) (by first | exact fun _ => trivial | (intro h; simp at h; first | exact ⟨by omega, by omega⟩ | omega)) rfl ?_
          | refine r_ld_cnd tab_ok rfl rfl rfl rfl rfl rfl (by first | exact fun _ => rfl | exact cs1 | exact cs2 | exact cs3) rfl ?_
          | refine r_and rfl rfl rfl rfl rfl rfl rfl rfl ?_)
        | refine awp_cond_f rfl ?_)
      exact ⟨⟨i + 1, acc, by omega, by omega, heq⟩, by dsimp only; omega, fits_drop 3 rfl rfl (by repeat' first | exact trivial | exact Sub.refl _ | exact rfl | apply And.intro)⟩
  · have : i = attrs.length := by omega
    subst this
    rw [List.drop_length, lowA] at heq
    repeat (first
      | refine awp_seq ?_
      | refine awp_exit ?_)
    refine awp_fits (s' := ⟨[.box 26 [.val (.int .i64 parent), .val (.string (lowS tag)), .val (.string text), .sl 2 (acc.map atD)], .box 26 [.val (.int .i64 0), .val (.string ⟨#[]⟩), .val (.string ⟨#[]⟩), .val (.slice none 0 0)], .gone], [(1, .ptr 0 0), (2, .ptr 1 0)]⟩) (fits_conv (by repeat' first | exact trivial | exact rfl | (rw [List.map_append]; first | done | rfl) | exact c_sub rfl (Sub.refl _) rfl | exact c_nil rfl rfl | exact c_thaw rfl rfl rfl | exact c_row rfl rfl rfl | exact c_row rfl rfl (by rw [List.map_append]; first | done | rfl) | exact c_ptr rfl rfl rfl rfl | exact Or.inl ⟨c_sub rfl (Sub.refl _) rfl, c_ptr rfl rfl rfl rfl⟩ | exact c_alt rfl rfl rfl rfl | exact c_ro rfl rfl | exact c_eo rfl rfl | exact c_sub rfl (Sub.altl _ _) rfl | exact c_sub rfl (Sub.nil _) rfl | refine ⟨_, _, rfl, ?_, ?_⟩ | apply And.intro) (by repeat' first | exact trivial | exact rfl | (rw [List.map_append]; first | done | rfl) | exact c_sub rfl (Sub.refl _) rfl | exact c_nil rfl rfl | exact c_thaw rfl rfl rfl | exact c_row rfl rfl rfl | exact c_row rfl rfl (by rw [List.map_append]; first | done | rfl) | exact c_ptr rfl rfl rfl rfl | exact Or.inl ⟨c_sub rfl (Sub.refl _) rfl, c_ptr rfl rfl rfl rfl⟩ | exact c_alt rfl rfl rfl rfl | exact c_ro rfl rfl | exact c_eo rfl rfl | exact c_sub rfl (Sub.altl _ _) rfl | exact c_sub rfl (Sub.nil _) rfl | refine ⟨_, _, rfl, ?_, ?_⟩ | apply And.intro)) ?_
    repeat (first
      | refine thenA_normal ?_
      | refine a_region ?_
      | refine awp_ret ?_
      | refine r_done ?_
      | (refine r_id ?_; first
        | refine r_ld tab_ok rfl rfl rfl rfl rfl ?_
        | refine r_st tab_ok rfl rfl rfl rfl ?_))
    exact ret1c tab_ok (by first | exact .inl rfl | exact .inr rfl) rfl rfl rfl rfl rfl rfl (by rw [heq]; exact Sub.agg (by repeat' first | exact trivial | exact Sub.refl _ | exact Sub.nil _ | refine Sub.agg ?_ | apply And.intro))
end Go.Proofs.Ytklodolkgdmhoaa

/- dom: New. -/
namespace Go.Proofs.Ytklodolkgdmhoaa
open Go Go.RowKit

def trC (gs : List Nt) : List AV := [.sl 6 (gs.map ntD)]
def trA (gs : List Nt) : AV := .dptr (trC gs)
theorem nt_cells : ∀ gs : List Nt, D.cellss (gs.map ntD) = (gs.map ntB).flatMap (blD 1)
  | [] => rfl
  | n :: r => by rw [List.map_cons, D.cellss, nt_cells r, List.map_cons, List.flatMap_cons]; rfl
/-- What New owns. -/
def stN : List Nt → List AB
  | [] => [tB 61 0, .row 0 64 6 []]
  | g :: gs => allM 61 64 6 3 1 ((g :: gs).map ntB)
theorem ntD_fine (n : Nt) : (ntD n).fine := by
  rw [ntD, D.fine]
  intro d hd
  simp only [List.mem_cons, List.not_mem_nil, or_false] at hd
  rcases hd with rfl | rfl | rfl | rfl | rfl | rfl <;> rw [D.fine] <;> first | rfl | exact trivial
theorem stN_pos {gs : List Nt} (h : 0 < gs.length) : stN gs = allM 61 64 6 3 1 (gs.map ntB) := by
  cases gs with
  | nil => exact absurd h (by simp)
  | cons g r => rfl
structure NS (l : List Rw) where
  gs : List Nt
  hi : gs.length ≤ l.length
  eq : newG l (l.drop gs.length) gs = newF l
  hk : ∀ n ∈ gs, n.kids.length ≤ gs.length
  hd : ∀ n ∈ gs, n.depth ≤ 64
def resN : Option (List Nt) → AV
  | some gs => .tup [trA gs, .val (.int .i64 0)]
  | none => .tup [.val (.pointer none), .val (.int .i64 4)]
theorem at_end {α : Type} {l : List α} {x : α} : (l ++ [x])[l.length]? = some x := by rw [List.getElem?_append_right (Nat.le_refl _), Nat.sub_self]; rfl
theorem set_end {α : Type} {l : List α} {x y : α} : (l ++ [x]).set l.length y = l ++ [y] := by rw [List.set_append_right _ _ (Nat.le_refl _), Nat.sub_self]; rfl
theorem split_at {α : Type} {l : List α} {p : Nat} (h : p < l.length) : ∃ xs g ys, l = xs ++ g :: ys ∧ xs.length = p :=
  ⟨l.take p, l[p], l.drop (p + 1), by rw [List.getElem_cons_drop, List.take_append_drop], by rw [List.length_take]; omega⟩
theorem okL_no {l : List Rw} : (decide ((l.length : Int) < 1) || decide ((1000 : Int) < l.length) || !decide ((l.getD 0 default).parent = -1) || decide ((l.getD 0 default).tag = emS)) = !okL l := by
  simp only [okL, Bool.not_and, Bool.not_not]
  congr 2
  congr 1
  · rw [← decide_not]; exact decide_eq_decide.2 (by omega)
  · rw [← decide_not]; exact decide_eq_decide.2 (by omega)
theorem okP_no {l : List Rw} {i : Nat} {r : Rw} : (decide (r.parent < 0) || decide ((i : Int) ≤ r.parent) || decide ((l.getD r.parent.toNat default).tag = emS)) = !okP l i r := by
  simp only [okP, Bool.not_and, Bool.not_not]
  congr 1
  congr 1
  · rw [← decide_not]; exact decide_eq_decide.2 (by omega)
  · rw [← decide_not]; exact decide_eq_decide.2 (by omega)
theorem allM_under (gs : List Nt) : (allM 61 64 6 3 1 (gs.map ntB)).all (AB.under (gs.length + 2)) = true := by
  rw [allM, mB, List.all_cons, List.all_cons]
  have h1 : AB.under (gs.length + 2) (.rowo 0 64 6 [] (gs.map ntB).length (blCs 2 v0 0 (gs.map ntB) ++ [])) = true := by
    rw [List.append_nil]
    show AV.unders (gs.length + 2) (blCs 2 v0 0 (gs.map ntB)) = true
    have : ∀ (j : Nat) (gs : List Nt) (n : Nat), 2 + j + gs.length ≤ n → AV.unders n (blCs 2 v0 j (gs.map ntB)) = true := by
      intro j gs
      induction gs generalizing j with
      | nil => intro n _; rfl
      | cons g r ih =>
        intro n h
        rw [List.length_cons] at h
        rw [List.map_cons, blCs]
        refine undersA ?_ (ih (j + 1) n (by omega))
        simp [blC, ntB, rwC, AV.unders, AV.under]
        omega
    exact this 0 gs _ (by omega)
  rw [h1, List.append_nil, Bool.true_and, Bool.and_eq_true]
  refine ⟨?_, ?_⟩
  · simp [tB, AB.under, AV.unders, AV.under]
  · have : ∀ (j : Nat) (gs : List Bl), (blRs 3 1 v0 j gs).all (AB.under (gs.length + 2)) = true := by
      intro j gs
      have : ∀ n, (blRs 3 1 v0 j gs).all (AB.under n) = true := by
        induction gs generalizing j with
        | nil => intro n; rfl
        | cons g r ih => intro n; rw [blRs, List.all_cons, ih (j + 1) n]; rfl
      exact this _
    have h2 := this 0 (gs.map ntB)
    rw [List.length_map] at h2
    exact h2
theorem put_mem {T E n : Nat} {xs ys : List Bl} {f : Bl} {k : List D} (hxs : ∀ g ∈ xs, g.ok 4 1) (hf : f.ok 4 1) :
    ((allM T E 6 3 1 (xs ++ f :: ys)).set (2 + xs.length) (.row n 3 1 k)).set 1 (.rowo 0 E 6 [] (xs ++ f :: ys).length (putCells (blCs 2 v0 0 (xs ++ f :: ys)) (xs.length * 6 + 4) [.row (2 + xs.length) n])) =
      mB (tB T 0) E 6 0 (xs ++ { f with kids := k } :: ys).length 3 1 (v1 xs.length n) (xs ++ { f with kids := k } :: ys) [] [] := by
  have h1 := blCs_put (o := 2) (n := n) (ys := ys) hxs hf
  have h2 := blRs_set (kt := 3) (kw := 1) (n := n) (xs := xs) (ys := ys) (f := f) (k := k)
  rw [h1, allM, mB, mB, Nat.add_comm 2, List.set_cons_succ, List.set_cons_succ, List.append_nil, List.append_nil, List.append_nil, List.append_nil]
  rw [List.set_cons_succ, List.set_cons_zero, h2, blCs_kids (xs := xs) (ys := ys) (f := f) (k := k)]
  simp
theorem runx_eq {P : Program} {ops : Array Oper} {N : Nat} {K : AS → Prop} {r : List Oper} {fo : Option (List Nat)} {M M' : List AB} {F : List (Nat × AV)} (h : M = M') (k : RunX P ops N K r fo M' F) : RunX P ops N K r fo M F := h ▸ k
set_option maxHeartbeats 4000000 in
theorem new_ok (l : List Rw) (hl : l.length ≤ 1099511627776) (hsm : ∀ r ∈ l, smR r) : PCalls Try.prog 10 [.sl 4 (l.map rwD)] (resN (newF l)) := by
  refine p_start Try.func10 Try.ntmps10 rfl rfl rfl fun S w => ?_
  have hlm : (l.map rwD).length = l.length := List.length_map _
  repeat (first
    | refine awp_seq ?_
    | refine thenA_normal ?_
    | refine a_region ?_
    | refine r_done ?_
    | (refine r_id ?_; first
      | refine r_len tab_ok rfl rfl rfl rfl rfl rfl rfl ?_
      | refine r_ev tab_ok rfl rfl rfl rfl (by first | exact trivial | exact ⟨by omega, by omega⟩ | omega | exact ⟨by omega, by omega, by omega, by omega⟩ | exact Nat.le_of_ble_eq_true rfl) rfl ?_
      | refine r_len_cnd tab_ok rfl rfl rfl rfl rfl rfl (by first | exact fun _ => rfl | exact cs1) rfl rfl rfl ?_
      | refine r_ev_cnd tab_ok rfl rfl rfl rfl rfl rfl (by first | exact fun _ => rfl | exact cs1 | exact cs2 | exact cs3) (by first | exact fun _ => trivial | (intro h; simp at h; first | exact ⟨by omega, by omega⟩ | omega)) rfl ?_
      | refine r_idx_cnd' tab_ok rfl rfl rfl rfl rfl rfl rfl (by first | exact fun _ => rfl | exact cs1 | exact cs2) rfl rfl (by intro h; simp at h; exact ⟨by omega, by omega⟩) rfl rfl ?_
      | refine r_or rfl rfl rfl rfl rfl rfl rfl rfl ?_))
  refine awp_cond rfl (fun h => ?_) (fun h => ?_)
  · have hok : okL l = false := by
      have h2 : (!okL l) = true := okL_no.symm.trans h
      simpa using h2
    have hn : newF l = none := by rw [newF, hok]; rfl
    rw [hn]
    repeat (first
      | refine awp_seq ?_
      | refine thenA_normal ?_
      | refine a_region ?_
      | refine awp_ret ?_
      | refine thenA_ret ?_
      | refine r_done ?_
      | (refine r_id ?_; first
        | refine r_ev tab_ok rfl rfl rfl rfl (by first | exact trivial | exact ⟨by omega, by omega⟩ | omega | exact ⟨by omega, by omega, by omega, by omega⟩ | exact Nat.le_of_ble_eq_true rfl) rfl ?_)
      | refine ret2 (by first | exact .inl rfl | exact .inr rfl) rfl rfl rfl rfl ?_ ?_)
    all_goals first | exact Sub.refl _ | trace_state
  · have hok : okL l = true := by
      have h2 : (!okL l) = false := okL_no.symm.trans h
      simpa using h2
    have h1000 : l.length ≤ 1000 := by simp [okL] at hok; omega
    have hnf : newF l = newG l l [] := by rw [newF, if_pos hok]
    repeat (first
      | refine awp_seq ?_
      | refine thenA_normal ?_
      | refine awp_block ?_
      | refine a_region ?_
      | refine awp_skip ?_
      | refine r_done ?_
      | (refine r_id ?_; first
        | refine r_len tab_ok rfl rfl rfl rfl rfl rfl rfl ?_
        | refine r_ev tab_ok rfl rfl rfl rfl (by first | exact trivial | exact ⟨by omega, by omega⟩ | omega | exact ⟨by omega, by omega, by omega, by omega⟩ | exact Nat.le_of_ble_eq_true rfl) rfl ?_
        | refine r_wr tab_ok rfl rfl rfl rfl rfl ?_
        | refine r_build tab_ok rfl rfl rfl rfl rfl rfl ?_))
    refine a_loop (σ := NS l) (fun x => stN x.gs) (fun x => [(0, .sl 4 (l.map rwD)), (4, .ptr 0 0), (33, .sl 4 (l.map rwD)), (34, .val (.int .i64 l.length)), (35, .val (.int .i64 x.gs.length))]) (fun x => l.length - x.gs.length)
      ⟨[], Nat.zero_le _, hnf.symm, fun _ h => absurd h (List.not_mem_nil), fun _ h => absurd h (List.not_mem_nil)⟩ (fits_conv (by repeat' first | exact trivial | exact rfl | (rw [List.map_append]; first | done | rfl) | exact c_sub rfl (Sub.refl _) rfl | exact c_nil rfl rfl | exact c_thaw rfl rfl rfl | exact c_row rfl rfl rfl | exact c_row rfl rfl (by rw [List.map_append]; first | done | rfl) | exact c_ptr rfl rfl rfl rfl | exact Or.inl ⟨c_sub rfl (Sub.refl _) rfl, c_ptr rfl rfl rfl rfl⟩ | exact c_alt rfl rfl rfl rfl | exact c_ro rfl rfl | exact c_eo rfl rfl | exact c_sub rfl (Sub.altl _ _) rfl | exact c_sub rfl (Sub.nil _) rfl | refine ⟨_, _, rfl, ?_, ?_⟩ | apply And.intro) (by repeat' first | exact trivial | exact rfl | (rw [List.map_append]; first | done | rfl) | exact c_sub rfl (Sub.refl _) rfl | exact c_nil rfl rfl | exact c_thaw rfl rfl rfl | exact c_row rfl rfl rfl | exact c_row rfl rfl (by rw [List.map_append]; first | done | rfl) | exact c_ptr rfl rfl rfl rfl | exact Or.inl ⟨c_sub rfl (Sub.refl _) rfl, c_ptr rfl rfl rfl rfl⟩ | exact c_alt rfl rfl rfl rfl | exact c_ro rfl rfl | exact c_eo rfl rfl | exact c_sub rfl (Sub.altl _ _) rfl | exact c_sub rfl (Sub.nil _) rfl | refine ⟨_, _, rfl, ?_, ?_⟩ | apply And.intro)) ?_
    rintro ⟨gs, hi, heq, hk, hd⟩
    dsimp only
    repeat (first
      | refine awp_seq ?_
      | refine a_region ?_
      | refine r_done ?_
      | (refine r_id ?_; first
        | refine r_ev tab_ok rfl rfl rfl rfl (by first | exact trivial | exact ⟨by omega, by omega⟩ | omega | exact ⟨by omega, by omega, by omega, by omega⟩ | exact Nat.le_of_ble_eq_true rfl) rfl ?_))
    refine awp_cond_p rfl (fun hlt => ?_) (fun hge => ?_)
    · have hi' : gs.length < l.length := by omega
      have hs := hsm l[gs.length] (List.getElem_mem hi')
      have hdr : l.drop gs.length = l[gs.length] :: l.drop (gs.length + 1) := List.drop_eq_getElem_cons hi'
      rw [hdr, newG] at heq
      obtain ⟨M0, hM0⟩ : ∃ M0, M0 = stN gs := ⟨_, rfl⟩
      rw [← hM0]
      repeat (first
        | refine awp_seq ?_
        | refine awp_block ?_
        | refine awp_skip ?_)
      refine a_region ?_
      repeat (first
        | (refine r_id ?_; first
          | refine r_ev tab_ok rfl rfl rfl rfl (by first | exact trivial | exact ⟨by omega, by omega⟩ | omega | exact ⟨by omega, by omega, by omega, by omega⟩ | exact Nat.le_of_ble_eq_true rfl) rfl ?_
          | refine r_idx tab_ok rfl rfl rfl rfl rfl rfl rfl (by first | exact ⟨by omega, by omega⟩ | (simp; omega)) rfl rfl ?_
          | refine r_wr tab_ok rfl rfl rfl rfl rfl ?_))
      simp only [Int.toNat_natCast]
      generalize l[gs.length] = r at hs heq ⊢
      have hMl : M0.length = gs.length + 2 := by
        rw [hM0]
        rcases Nat.eq_zero_or_pos gs.length with h0 | h0
        · rw [List.eq_nil_of_length_eq_zero h0]; rfl
        · rw [stN_pos h0, allM, mB_len, List.length_map]; rfl
      have hMu : M0.all (AB.under M0.length) = true := by
        rw [hMl, hM0]
        rcases Nat.eq_zero_or_pos gs.length with h0 | h0
        · rw [List.eq_nil_of_length_eq_zero h0]; rfl
        · rw [stN_pos h0]; exact allM_under gs
      refine r_by2n (astep_store tab_ok rfl rfl rfl at_end rfl rfl rfl) rfl rfl rfl ?_
      rw [set_end]
      repeat (first
        | refine awp_seq ?_
        | refine r_done ?_)
      refine awp_fits (s' := ⟨M0, [(0, .sl 4 (l.map rwD)), (4, .ptr 0 0), (5, .val (.int .i64 gs.length)), (6, .dptr (rwC r)), (33, .sl 4 (l.map rwD)), (34, .val (.int .i64 l.length)), (35, .val (.int .i64 gs.length))]⟩)
        (fits_tr (fits_sinkp (i := M0.length) (d := 6) (T := 26) (l := rwC r) at_end rfl rfl) (fits_drop M0.length (by rw [set_end, List.take_left]) hMu ⟨⟨rfl, Sub.refl _⟩, ⟨by rw [hMl]; rfl, Sub.refl _⟩, ⟨rfl, Sub.refl _⟩, ⟨rfl, Sub.refl _⟩, ⟨rfl, Sub.refl _⟩, ⟨rfl, Sub.refl _⟩, ⟨rfl, Sub.refl _⟩, trivial⟩ (by simp))) ?_
      repeat (first
        | refine awp_seq ?_
        | refine thenA_normal ?_
        | refine a_region ?_
        | refine r_done ?_
        | (refine r_id ?_; first
          | refine r_ev tab_ok rfl rfl rfl rfl (by first | exact trivial | exact ⟨by omega, by omega⟩ | omega | exact ⟨by omega, by omega, by omega, by omega⟩ | exact Nat.le_of_ble_eq_true rfl) rfl ?_))
      rcases Nat.eq_zero_or_pos gs.length with h0 | h0
      · have hg : gs = [] := List.eq_nil_of_length_eq_zero h0
        subst hg
        subst hM0
        rw [stN]
        refine awp_cond_f rfl ?_
        repeat (first
          | refine awp_seq ?_
          | refine thenA_normal ?_
          | refine a_region ?_
          | refine awp_skip ?_
          | refine r_done ?_
          | (refine r_id ?_; first
            | refine r_ev tab_ok rfl rfl rfl rfl (by first | exact trivial | exact ⟨by omega, by omega⟩ | omega | exact ⟨by omega, by omega, by omega, by omega⟩ | exact Nat.le_of_ble_eq_true rfl) rfl ?_)
          | refine awp_cond_f rfl ?_)
        refine a_draw mixed_ok [0, 0, 0, 0, 1, 1, 1, 0, 0, 1, 2, 0, 0, 2] (by kernel_rfl) ?_
        repeat (first
          | (refine r_id ?_; first
            | refine r_ev tab_ok rfl rfl rfl rfl (by first | exact trivial | exact ⟨by omega, by omega⟩ | omega | exact ⟨by omega, by omega, by omega, by omega⟩ | exact Nat.le_of_ble_eq_true rfl) rfl ?_
            | refine r_ld tab_ok rfl rfl rfl rfl rfl ?_
            | refine r_nilck rfl rfl rfl rfl rfl rfl rfl ?_))
        refine r_call (low_ok r hs) call32 rfl rfl ⟨Sub.refl _, trivial⟩ rfl rfl rfl rfl ?_
        repeat (first
          | (refine r_id ?_; first
            | refine r_ev tab_ok rfl rfl rfl rfl (by first | exact trivial | exact ⟨by omega, by omega⟩ | omega | exact ⟨by omega, by omega, by omega, by omega⟩ | exact Nat.le_of_ble_eq_true rfl) rfl ?_
            | refine r_build tab_ok rfl rfl rfl rfl rfl rfl ?_
            | refine r_built tab_ok rfl rfl rfl rfl rfl rfl rfl rfl rfl ?_))
        have heq : newG l (l.drop 1) [⟨lowR r, [], 1⟩] = newF l := heq
        refine r_append tab_ok rfl rfl rfl rfl rfl rfl rfl rfl rfl (by simp) rfl ?_
        repeat (first
          | refine thenA_normal ?_
          | refine a_region ?_
          | refine r_done ?_
          | refine r_done' ?_
          | (refine r_id ?_; first
            | refine r_ev tab_ok rfl rfl rfl rfl (by first | exact trivial | exact ⟨by omega, by omega⟩ | omega | exact ⟨by omega, by omega, by omega, by omega⟩ | exact Nat.le_of_ble_eq_true rfl) rfl ?_
            | refine r_st tab_ok rfl rfl rfl rfl ?_
            | refine r_nilck rfl rfl rfl rfl rfl rfl rfl ?_))
        refine ⟨⟨[⟨lowR r, [], 1⟩], hi', heq, fun n hn => by rw [List.mem_singleton.1 hn]; exact Nat.zero_le _, fun n hn => by rw [List.mem_singleton.1 hn]; show (1 : Nat) ≤ 64; omega⟩, by simp at hi' ⊢; omega, ?_⟩
        dsimp only
        refine fits_tr (fits_open (i := 1) (ver := 2) (pre := []) (e := 64) (k := 6) (d := D.ag [D.val (.int .i64 (lowR r).parent), D.val (.string (lowR r).tag), D.val (.string (lowR r).text), D.sl 2 ((lowR r).attrs.map atD), D.val (.slice none 0 0), D.val (.int .i64 1)]) rfl) ?_
        exact fits_conv (by repeat' first | exact trivial | exact rfl | (rw [List.map_append]; first | done | rfl) | exact c_sub rfl (Sub.refl _) rfl | exact c_nil rfl rfl | exact c_thaw rfl rfl rfl | exact c_row rfl rfl rfl | exact c_row rfl rfl (by rw [List.map_append]; first | done | rfl) | exact c_ptr rfl rfl rfl rfl | exact Or.inl ⟨c_sub rfl (Sub.refl _) rfl, c_ptr rfl rfl rfl rfl⟩ | exact c_alt rfl rfl rfl rfl | exact c_ro rfl rfl | exact c_eo rfl rfl | exact c_sub rfl (Sub.altl _ _) rfl | exact c_sub rfl (Sub.nil _) rfl | refine ⟨_, _, rfl, ?_, ?_⟩ | apply And.intro) (by repeat' first | exact trivial | exact rfl | (rw [List.map_append]; first | done | rfl) | exact c_sub rfl (Sub.refl _) rfl | exact c_nil rfl rfl | exact c_thaw rfl rfl rfl | exact c_row rfl rfl rfl | exact c_row rfl rfl (by rw [List.map_append]; first | done | rfl) | exact c_ptr rfl rfl rfl rfl | exact Or.inl ⟨c_sub rfl (Sub.refl _) rfl, c_ptr rfl rfl rfl rfl⟩ | exact c_alt rfl rfl rfl rfl | exact c_ro rfl rfl | exact c_eo rfl rfl | exact c_sub rfl (Sub.altl _ _) rfl | exact c_sub rfl (Sub.nil _) rfl | refine ⟨_, _, rfl, ?_, ?_⟩ | apply And.intro)
      · rw [if_neg (by omega)] at heq
        refine awp_cond_p rfl (fun hp0 => ?_) (fun hp0 => absurd hp0 (by omega))
        repeat (first
          | refine awp_seq ?_
          | refine thenA_normal ?_
          | refine a_region ?_
          | refine r_done ?_
          | (refine r_id ?_; first
            | refine r_ev tab_ok rfl rfl rfl rfl (by first | exact trivial | exact ⟨by omega, by omega⟩ | omega | exact ⟨by omega, by omega, by omega, by omega⟩ | exact Nat.le_of_ble_eq_true rfl) rfl ?_
            | refine r_ev_cnd tab_ok rfl rfl rfl rfl rfl rfl (by first | exact fun _ => rfl | exact cs1 | exact cs2 | exact cs3) (by first | exact fun _ => trivial | (intro h; simp at h; first | exact ⟨by omega, by omega⟩ | omega)) rfl ?_
            | refine r_idx_cnd' tab_ok rfl rfl rfl rfl rfl rfl rfl (by first | exact fun _ => rfl | exact cs1 | exact cs2) rfl rfl (by intro h; simp at h; exact ⟨by omega, by omega⟩) rfl rfl ?_
            | refine r_or rfl rfl rfl rfl rfl rfl rfl rfl ?_))
        refine awp_cond rfl (fun hc => ?_) (fun hc => ?_)
        · have hc2 : okP l gs.length r = false := by
            have h2 : (!okP l gs.length r) = true := okP_no.symm.trans hc
            simpa using h2
          rw [hc2, if_neg Bool.false_ne_true] at heq
          rw [← heq]
          repeat (first
            | refine awp_seq ?_
            | refine thenA_normal ?_
            | refine a_region ?_
            | refine awp_ret ?_
            | refine thenA_ret ?_
            | refine blockA_ret ?_
            | refine r_done ?_
            | (refine r_id ?_; first
              | refine r_ev tab_ok rfl rfl rfl rfl (by first | exact trivial | exact ⟨by omega, by omega⟩ | omega | exact ⟨by omega, by omega, by omega, by omega⟩ | exact Nat.le_of_ble_eq_true rfl) rfl ?_)
            | refine ret2 (by first | exact .inl rfl | exact .inr rfl) rfl rfl rfl rfl ?_ ?_)
          all_goals first | exact Sub.refl _ | trace_state
        · have hc2 : okP l gs.length r = true := by
            have h2 : (!okP l gs.length r) = false := okP_no.symm.trans hc
            simpa using h2
          rw [if_pos hc2] at heq
          obtain ⟨p0, p1, p2⟩ := okP_iff.1 hc2
          have hpl : r.parent.toNat < gs.length := by omega
          obtain ⟨xs, g, ys, rfl, hx⟩ := split_at hpl
          have hgl : (xs ++ g :: ys).length = xs.length + 1 + ys.length := by simp; omega
          have hgd : (xs ++ g :: ys).getD r.parent.toNat default = g := by rw [← hx, List.getD_eq_getElem?_getD, List.getElem?_append_right (Nat.le_refl _), Nat.sub_self]; rfl
          have hmap : (xs ++ g :: ys).map ntB = xs.map ntB ++ ntB g :: ys.map ntB := by rw [List.map_append, List.map_cons]
          have hgk : g.kids.length ≤ (xs ++ g :: ys).length := hk g (by simp)
          have hgdp : g.depth ≤ 64 := hd g (by simp)
          rw [hgd] at heq
          have hxl : (xs.map ntB).length = xs.length := List.length_map _
          have hbox : M0[0]? = some (tB 61 0) := by rw [hM0, stN_pos h0]; rfl
          have hopen : M0[1]? = some (.rowo 0 64 6 [] (xs ++ g :: ys).length (blCs 2 v0 0 (xs.map ntB ++ ntB g :: ys.map ntB))) := by rw [hM0, stN_pos h0, allM, mB, List.append_nil, hmap, ← hmap, List.length_map, hmap]; rfl
          have hkid : M0[2 + xs.length]? = some (.row 0 3 1 (g.kids.map nD)) := by
            rw [hM0, stN_pos h0, hmap, allM, ← hxl, mB_row, List.append_nil]
            exact blRs_at _ _ _
          repeat (first
            | refine awp_seq ?_
            | refine a_draw1 mixed_ok (by kernel_rfl) ?_
            | refine awp_skip ?_
            | (refine r_id ?_; first
              | refine r_ev tab_ok rfl rfl rfl rfl (by first | exact trivial | exact ⟨by omega, by omega⟩ | omega | exact ⟨by omega, by omega, by omega, by omega⟩ | exact Nat.le_of_ble_eq_true rfl) rfl ?_
              | refine r_nilck rfl rfl rfl rfl rfl rfl rfl ?_))
          refine r_by1 (astep_load tab_ok rfl rfl rfl hbox (ldAV_eq rfl)) rfl rfl rfl rfl rfl ?_
          repeat (first
            | (refine r_id ?_; first
              | refine r_ev tab_ok rfl rfl rfl rfl (by first | exact trivial | exact ⟨by omega, by omega⟩ | omega | exact ⟨by omega, by omega, by omega, by omega⟩ | exact Nat.le_of_ble_eq_true rfl) rfl ?_))
          refine r_idx_o tab_ok rfl rfl rfl rfl hopen rfl rfl rfl (by omega) (by rw [← hx, hgl]; simp; omega) rfl ?_
          rw [← hx]
          have hblx : ∀ f ∈ xs.map ntB, f.ok 4 1 := ntB_all xs
          have hc4 : ∃ rest, (blCs 2 v0 0 (xs.map ntB ++ ntB g :: ys.map ntB)).drop (xs.length * 6 + 4) = .row (2 + xs.length) 0 :: rest := by
            have := blCs_drop (o := 2) (v := v0) (ys := ys.map ntB) (f := ntB g) hblx 4 (by rw [blC_len (ntB_ok g)]; decide)
            rw [hxl, blC_drop (ntB_ok g)] at this
            exact ⟨_, this⟩
          have hc5 : ∃ rest, (blCs 2 (v1 xs.length 2) 0 (xs.map ntB ++ ntB g :: ys.map ntB)).drop (xs.length * 6 + 5) = .val (.int .i64 g.depth) :: rest := by
            have := blCs_drop (o := 2) (v := v1 xs.length 2) (ys := ys.map ntB) (f := ntB g) hblx 5 (by rw [blC_len (ntB_ok g)]; decide)
            rw [hxl, show (5 : Nat) = 4 + 1 + 0 from rfl, blC_drop1 (ntB_ok g)] at this
            exact ⟨_, this⟩
          obtain ⟨rest4, hc4⟩ := hc4
          obtain ⟨rest5, hc5⟩ := hc5
          have hnk : (g.kids.map nD).length = g.kids.length := List.length_map _
          repeat (first
            | refine awp_seq ?_
            | refine a_region ?_
            | refine r_done' ?_
            | (refine r_id ?_; first
              | refine r_ev tab_ok rfl rfl rfl rfl (by first | exact trivial | exact ⟨by omega, by omega⟩ | omega | exact ⟨by omega, by omega, by omega, by omega⟩ | exact Nat.le_of_ble_eq_true rfl) rfl ?_))
          refine r_nilck_o rfl rfl rfl hopen rfl rfl rfl ?_
          refine r_field_o tab_ok rfl rfl rfl rfl hopen rfl rfl rfl ?_
          refine r_ld_o tab_ok rfl rfl rfl rfl hopen (o' := xs.length * 6 + 4) (by simp) (by rw [hc4]; rfl) rfl rfl rfl ?_
          repeat (first
            | (refine r_id ?_; first
              | refine r_ev tab_ok rfl rfl rfl rfl (by first | exact trivial | exact ⟨by omega, by omega⟩ | omega | exact ⟨by omega, by omega, by omega, by omega⟩ | exact Nat.le_of_ble_eq_true rfl) rfl ?_
              | refine r_built tab_ok rfl rfl rfl rfl rfl rfl rfl rfl rfl ?_))
          refine r_append tab_ok rfl rfl rfl rfl rfl hkid rfl rfl rfl (by rw [hnk]; simp; omega) rfl ?_
          have hop : ∀ X, (M0.set (2 + xs.length) X)[1]? = some (.rowo 0 64 6 [] (xs ++ g :: ys).length (blCs 2 v0 0 (xs.map ntB ++ ntB g :: ys.map ntB))) := fun X => by rw [List.getElem?_set_ne (by omega)]; exact hopen
          have hse : ∀ X, (M0.set (2 + xs.length) X)[2 + xs.length]? = some X := fun X => List.getElem?_set_self (by omega)
          refine r_nilck_o rfl rfl rfl (hop _) rfl rfl rfl ?_
          refine r_field_o tab_ok rfl rfl rfl rfl (hop _) rfl rfl rfl ?_
          refine r_by2n (astep_store_o tab_ok rfl rfl rfl (hop _) (o' := xs.length * 6 + 4) (by simp) (by show (freshRow _ _ _ && true) = true; rw [freshRow, hse]; rfl) rfl (by rw [blCs_len (na := 4) (nb := 1) 0 (by rw [← hmap]; exact ntB_all _), ← hmap, List.length_map, hgl]; simp; omega)) rfl rfl rfl ?_
          have hmem : ((M0.set (2 + xs.length) (.row 2 3 1 (g.kids.map nD ++ [nD (xs ++ g :: ys).length]))).set 1 (.rowo 0 64 6 [] (xs ++ g :: ys).length (putCells (blCs 2 v0 0 (xs.map ntB ++ ntB g :: ys.map ntB)) (xs.length * 6 + 4) [.row (2 + xs.length) 2]))) =
              mB (tB 61 0) 64 6 0 (xs.map ntB ++ ntB { g with kids := g.kids ++ [(xs ++ g :: ys).length] } :: ys.map ntB).length 3 1 (v1 xs.length 2) (xs.map ntB ++ ntB { g with kids := g.kids ++ [(xs ++ g :: ys).length] } :: ys.map ntB) [] [] := by
            have := put_mem (T := 61) (E := 64) (n := 2) (ys := ys.map ntB) (f := ntB g) (k := g.kids.map nD ++ [nD (xs ++ g :: ys).length]) hblx (ntB_ok g)
            rw [hxl, ← show (xs ++ g :: ys).length = (xs.map ntB ++ ntB g :: ys.map ntB).length by simp] at this
            rw [hM0, stN_pos h0, hmap, this, show ntB { g with kids := g.kids ++ [(xs ++ g :: ys).length] } = { ntB g with kids := g.kids.map nD ++ [nD (xs ++ g :: ys).length] } by simp [ntB]]
          refine runx_eq hmem ?_
          have hL2 : (xs.map ntB ++ ntB { g with kids := g.kids ++ [(xs ++ g :: ys).length] } :: ys.map ntB).length = (xs ++ g :: ys).length := by simp
          have hcs : blCs 2 (v1 xs.length 2) 0 (xs.map ntB ++ ntB { g with kids := g.kids ++ [(xs ++ g :: ys).length] } :: ys.map ntB) = blCs 2 (v1 xs.length 2) 0 (xs.map ntB ++ ntB g :: ys.map ntB) := by
            rw [blCs_mid, blCs_mid]; rfl
          obtain ⟨M1, hM1⟩ : ∃ M1, M1 = mB (tB 61 0) 64 6 0 (xs.map ntB ++ ntB { g with kids := g.kids ++ [(xs ++ g :: ys).length] } :: ys.map ntB).length 3 1 (v1 xs.length 2) (xs.map ntB ++ ntB { g with kids := g.kids ++ [(xs ++ g :: ys).length] } :: ys.map ntB) [] [] := ⟨_, rfl⟩
          rw [← hM1]
          have hop1 : M1[1]? = some (.rowo 0 64 6 [] (xs ++ g :: ys).length (blCs 2 (v1 xs.length 2) 0 (xs.map ntB ++ ntB g :: ys.map ntB))) := by rw [hM1, mB, hL2, hcs, List.append_nil]; rfl
          repeat (first
            | refine thenA_normal ?_
            | refine a_region ?_
            | refine r_done ?_
            | (refine r_id ?_; first
              | refine r_ev tab_ok rfl rfl rfl rfl (by first | exact trivial | exact ⟨by omega, by omega⟩ | omega | exact ⟨by omega, by omega, by omega, by omega⟩ | exact Nat.le_of_ble_eq_true rfl) rfl ?_))
          refine r_nilck_o rfl rfl rfl hop1 rfl rfl rfl ?_
          refine r_field_o tab_ok rfl rfl rfl rfl hop1 rfl rfl rfl ?_
          refine r_ld_o tab_ok rfl rfl rfl rfl hop1 (o' := xs.length * 6 + 5) (by simp) (by rw [hc5]; rfl) rfl rfl rfl ?_
          repeat (first
            | refine awp_seq ?_
            | refine thenA_normal ?_
            | refine a_region ?_
            | refine r_done ?_
            | (refine r_id ?_; first
              | refine r_ev tab_ok rfl rfl rfl rfl (by first | exact trivial | exact ⟨by omega, by omega⟩ | omega | exact ⟨by omega, by omega, by omega, by omega⟩ | exact Nat.le_of_ble_eq_true rfl) rfl ?_))
          refine awp_cond_p rfl (fun hdp => ?_) (fun hdp => ?_)
          · rw [if_neg (by omega)] at heq
            rw [← heq]
            repeat (first
              | refine awp_seq ?_
              | refine thenA_normal ?_
              | refine a_region ?_
              | refine awp_ret ?_
              | refine thenA_ret ?_
              | refine blockA_ret ?_
              | refine r_done ?_
              | (refine r_id ?_; first
                | refine r_ev tab_ok rfl rfl rfl rfl (by first | exact trivial | exact ⟨by omega, by omega⟩ | omega | exact ⟨by omega, by omega, by omega, by omega⟩ | exact Nat.le_of_ble_eq_true rfl) rfl ?_)
              | refine ret2 (by first | exact .inl rfl | exact .inr rfl) rfl rfl rfl rfl ?_ ?_)
            all_goals first | exact Sub.refl _ | trace_state
          · rw [if_pos (by omega)] at heq
            have hadd : addKid (xs ++ g :: ys) r.parent.toNat (xs ++ g :: ys).length = xs ++ { g with kids := g.kids ++ [(xs ++ g :: ys).length] } :: ys := by
              rw [addKid, hgd, ← hx, List.set_append_right _ _ (Nat.le_refl _), Nat.sub_self]; rfl
            rw [hadd] at heq
            have hlk : (xs ++ { g with kids := g.kids ++ [(xs ++ g :: ys).length] } :: ys).length = (xs ++ g :: ys).length := by simp
            have hmk : (xs ++ { g with kids := g.kids ++ [(xs ++ g :: ys).length] } :: ys).map ntB = xs.map ntB ++ ntB { g with kids := g.kids ++ [(xs ++ g :: ys).length] } :: ys.map ntB := by rw [List.map_append, List.map_cons]
            have hkd : ∀ n ∈ xs ++ { g with kids := g.kids ++ [(xs ++ g :: ys).length] } :: ys, n.kids.length ≤ (xs ++ g :: ys).length + 1 ∧ n.depth ≤ 64 := by
              intro n hn
              rcases List.mem_append.1 hn with h1 | h1
              · exact ⟨Nat.le_succ_of_le (hk n (List.mem_append_left _ h1)), hd n (List.mem_append_left _ h1)⟩
              · rcases List.mem_cons.1 h1 with rfl | h1
                · exact ⟨by simp at hgk ⊢; omega, hgdp⟩
                · exact ⟨Nat.le_succ_of_le (hk n (by simp [h1])), hd n (by simp [h1])⟩
            rw [← hmk] at hM1
            generalize xs ++ { g with kids := g.kids ++ [(xs ++ g :: ys).length] } :: ys = gs2 at heq hlk hmk hkd hM1
            have hlm2 : (gs2.map ntB).length = gs2.length := List.length_map _
            rw [hM1]
            refine awp_fits (s' := ⟨allM 61 64 6 3 1 (gs2.map ntB), [(0, .sl 4 (l.map rwD)), (4, .ptr 0 0), (6, .dptr (rwC r)), (7, .val (.int .i64 (g.depth + 1 : Int))), (33, .sl 4 (l.map rwD)), (34, .val (.int .i64 l.length)), (35, .val (.int .i64 gs2.length))]⟩)
              (fits_blPut rfl (ntB_all gs2) rfl (fun M M' e1 e2 e3 e4 => ?_)) ?_
            · rw [hlk]
              exact ⟨c_sub rfl (Sub.refl _) rfl, c_ptr e1 rfl e3 rfl, c_sub rfl (Sub.refl _) rfl, c_sub rfl (Sub.refl _) rfl, c_sub rfl (Sub.refl _) rfl, c_sub rfl (Sub.refl _) rfl, c_sub rfl (Sub.refl _) rfl, trivial⟩
            obtain ⟨M2, hM2⟩ : ∃ M2, M2 = allM 61 64 6 3 1 (gs2.map ntB) := ⟨_, rfl⟩
            rw [← hM2]
            have hbox2 : M2[0]? = some (tB 61 0) := by rw [hM2]; rfl
            have hop2 : M2[1]? = some (.rowo 0 64 6 [] gs2.length (blCs 2 v0 0 (gs2.map ntB))) := by rw [hM2, allM, mB, List.append_nil, hlm2]; rfl
            repeat (first
              | refine thenA_normal ?_
              | refine awp_skip ?_)
            refine a_draw mixed_ok [0, 0, 0, 0, 1, 1, 1, 0, 0, 1, 2, 0, 0, 2] (by kernel_rfl) ?_
            repeat (first
              | (refine r_id ?_; first
                | refine r_ev tab_ok rfl rfl rfl rfl (by first | exact trivial | exact ⟨by omega, by omega⟩ | omega | exact ⟨by omega, by omega, by omega, by omega⟩ | exact Nat.le_of_ble_eq_true rfl) rfl ?_
                | refine r_nilck rfl rfl rfl rfl rfl rfl rfl ?_))
            refine r_by1 (astep_load tab_ok rfl rfl rfl hbox2 (ldAV_eq rfl)) rfl rfl rfl rfl rfl ?_
            repeat (first
              | (refine r_id ?_; first
                | refine r_ev tab_ok rfl rfl rfl rfl (by first | exact trivial | exact ⟨by omega, by omega⟩ | omega | exact ⟨by omega, by omega, by omega, by omega⟩ | exact Nat.le_of_ble_eq_true rfl) rfl ?_))
            refine r_call (low_ok r hs) call32 rfl rfl ⟨Sub.refl _, trivial⟩ rfl rfl rfl rfl ?_
            repeat (first
              | (refine r_id ?_; first
                | refine r_ev tab_ok rfl rfl rfl rfl (by first | exact trivial | exact ⟨by omega, by omega⟩ | omega | exact ⟨by omega, by omega, by omega, by omega⟩ | exact Nat.le_of_ble_eq_true rfl) rfl ?_
                | refine r_build tab_ok rfl rfl rfl rfl rfl rfl ?_
                | refine r_built tab_ok rfl rfl rfl rfl rfl rfl rfl rfl rfl ?_))
            refine r_append_o tab_ok rfl rfl rfl rfl rfl hop2 rfl rfl rfl (by simp; omega) rfl rfl ?_
            repeat (first
              | (refine r_id ?_; first
                | refine r_ev tab_ok rfl rfl rfl rfl (by first | exact trivial | exact ⟨by omega, by omega⟩ | omega | exact ⟨by omega, by omega, by omega, by omega⟩ | exact Nat.le_of_ble_eq_true rfl) rfl ?_
                | refine r_nilck rfl rfl rfl rfl rfl rfl rfl ?_))
            have hbox3 : ∀ X, (M2.set 1 X)[0]? = some (tB 61 0) := fun X => by rw [List.getElem?_set_ne (by omega)]; exact hbox2
            refine r_by2n (astep_store tab_ok rfl rfl rfl (hbox3 _) ?_ rfl rfl) rfl rfl rfl ?_
            · show (freshRow _ _ _ && true) = true
              rw [freshRow, List.getElem?_set_self (by rw [hM2, allM, mB_len]; simp)]
              rfl
            repeat (first
              | refine thenA_normal ?_
              | refine a_region ?_
              | refine r_done ?_
              | refine r_done' ?_
              | (refine r_id ?_; first
                | refine r_ev tab_ok rfl rfl rfl rfl (by first | exact trivial | exact ⟨by omega, by omega⟩ | omega | exact ⟨by omega, by omega, by omega, by omega⟩ | exact Nat.le_of_ble_eq_true rfl) rfl ?_))
            have hnew : newG l (l.drop ((gs2 ++ [⟨lowR r, [], g.depth + 1⟩] : List Nt).length)) (gs2 ++ [⟨lowR r, [], g.depth + 1⟩]) = newF l := by
              rw [List.length_append, hlk]; exact heq
            refine ⟨⟨gs2 ++ [⟨lowR r, [], g.depth + 1⟩], by rw [List.length_append, hlk]; exact hi', hnew, ?_, ?_⟩, ?_, ?_⟩
            · intro n hn
              rw [List.length_append, hlk]
              rcases List.mem_append.1 hn with h1 | h1
              · exact (hkd n h1).1
              · rw [List.mem_singleton.1 h1]; exact Nat.zero_le _
            · intro n hn
              rcases List.mem_append.1 hn with h1 | h1
              · exact (hkd n h1).2
              · rw [List.mem_singleton.1 h1]; show g.depth + 1 ≤ 64; omega
            · dsimp only
              rw [List.length_append, hlk, List.length_singleton]
              omega
            · dsimp only
              rw [stN_pos (by rw [List.length_append, List.length_singleton]; omega), List.map_append]
              refine fits_tr (s' := ⟨mB (tB 61 2) 64 6 2 ((gs2.map ntB).length + 1) 3 1 v0 (gs2.map ntB) ((ntB ⟨lowR r, [], g.depth + 1⟩).a ++ .val (.slice none 0 0) :: (ntB ⟨lowR r, [], g.depth + 1⟩).b) [], [(0, .sl 4 (l.map rwD)), (4, .ptr 0 0), (33, .sl 4 (l.map rwD)), (34, .val (.int .i64 l.length)), (35, .val (.int .i64 (gs2.length + 1 : Nat)))]⟩) ?_
                (fits_blPush (f := ntB ⟨lowR r, [], g.depth + 1⟩) rfl (ntB_all gs2) (ntB_ok _) (fun M M' e1 e2 e3 e4 => ⟨c_sub rfl (Sub.refl _) rfl, c_ptr e1 rfl e3 rfl, c_sub rfl (Sub.refl _) rfl, c_sub rfl (Sub.refl _) rfl, ?_, trivial⟩))
              · have : (M2.set 1 (.rowo 2 64 6 [] (gs2.length + 1) (blCs 2 v0 0 (gs2.map ntB) ++ (D.ag [D.val (.int .i64 (lowR r).parent), D.val (.string (lowR r).tag), D.val (.string (lowR r).text), D.sl 2 ((lowR r).attrs.map atD), D.val (.slice none 0 0), D.val (.int .i64 (g.depth + 1 : Int))]).cells))).set 0 (.box 61 [.row 1 2]) = mB (tB 61 2) 64 6 2 ((gs2.map ntB).length + 1) 3 1 v0 (gs2.map ntB) ((ntB ⟨lowR r, [], g.depth + 1⟩).a ++ .val (.slice none 0 0) :: (ntB ⟨lowR r, [], g.depth + 1⟩).b) [] := by
                  rw [hM2, allM, mB, mB, List.append_nil, List.set_cons_succ, List.set_cons_zero, List.set_cons_zero, hlm2]
                  rfl
                rw [← this]
                exact fits_of rfl (by repeat' first | exact trivial | exact Sub.refl _ | exact Sub.nil _ | refine Sub.agg ?_ | apply And.intro)
              · exact c_sub rfl (Sub.of_eq (by show AV.val (.int .i64 ((gs2.length + 1 : Nat) : Int)) = _; rw [List.length_append]; rfl)) rfl
    · have hgl : gs.length = l.length := by omega
      rw [hgl, List.drop_length, newG] at heq
      rw [← heq]
      have h0 : 0 < gs.length := by
        simp [okL] at hok
        omega
      have hgm : (gs.map ntD).length = (gs.map ntB).length := by rw [List.length_map, List.length_map]
      rw [stN_pos h0]
      repeat (first
        | refine awp_seq ?_
        | refine awp_exit ?_)
      refine awp_fits (s' := ⟨.gone :: .gone :: (gs.map ntB).map fun _ => .gone, (4, .dptr [.sl 6 (gs.map ntD)]) :: [(4, .ptr 0 0)]⟩) (fits_blData (ntB_all gs) (nt_cells gs) ?_ hgm ?_ rfl (fun M M' e1 e2 => ⟨c_ptr e1 rfl e2 rfl, trivial⟩)) ?_
      · intro d hd
        obtain ⟨n, _, rfl⟩ := List.mem_map.1 hd
        exact ntD_fine n
      · intro d hd
        obtain ⟨n, _, rfl⟩ := List.mem_map.1 hd
        rfl
      repeat (first
        | refine thenA_normal ?_
        | refine a_region ?_
        | refine awp_ret ?_
        | refine r_done ?_
        | (refine r_id ?_; first
          | refine r_ev tab_ok rfl rfl rfl rfl (by first | exact trivial | exact ⟨by omega, by omega⟩ | omega | exact ⟨by omega, by omega, by omega, by omega⟩ | exact Nat.le_of_ble_eq_true rfl) rfl ?_)
        | refine ret2 (by first | exact .inl rfl | exact .inr rfl) rfl rfl rfl rfl ?_ ?_)
      all_goals first | exact Sub.refl _ | trace_state
end Go.Proofs.Ytklodolkgdmhoaa

/- dom: what is asked of a tree's nodes. -/
namespace Go.Proofs.Ytklodolkgdmhoaa
open Go Go.RowKit

def inB (gs : List Nt) (i : Int) : Bool := decide (0 ≤ i) && decide (i < gs.length)
def parF (gs : List Nt) (i : Int) : Int := if inB gs i then (ntAt gs i.toNat).r.parent else -1
def elB (gs : List Nt) (i : Int) : Bool := inB gs i && !decide ((ntAt gs i.toNat).r.tag = emS)
def depF (gs : List Nt) (i : Int) : Int := if inB gs i then (ntAt gs i.toNat).depth else 0
def kidF (gs : List Nt) (i : Int) : List Nat := if inB gs i then (ntAt gs i.toNat).kids else []
def zRw : Rw := ⟨0, emS, emS, []⟩
def nodeF (gs : List Nt) (i : Int) : Rw := if inB gs i then (ntAt gs i.toNat).r else zRw
def attrL : List At → ByteArray → ByteArray × Bool
  | [], _ => (emS, false)
  | a :: r, n => if a.name = n then (a.value, true) else attrL r n
def attrF (gs : List Nt) (i : Int) (n : ByteArray) : ByteArray × Bool := if inB gs i then attrL (ntAt gs i.toNat).r.attrs n else (emS, false)
theorem inB_t {gs : List Nt} {i : Int} (h : inB gs i = true) : 0 ≤ i ∧ i < gs.length ∧ i.toNat < gs.length := by
  rw [inB, Bool.and_eq_true, decide_eq_true_eq, decide_eq_true_eq] at h
  omega
theorem ntAt_get {gs : List Nt} {i : Nat} (h : i < gs.length) : gs[i] = ntAt gs i := by
  rw [ntAt, List.getD_eq_getElem?_getD, List.getElem?_eq_getElem h]; rfl
theorem underT : Try.prog.underlying 29 = some (.pointer 61) := by kernel_rfl
theorem underR : Try.prog.underlying 33 = some (.pointer 54) := by kernel_rfl
theorem len_ok (gs : List Nt) (hg : gs.length ≤ 1099511627776) : PCalls Try.prog 18 [trA gs] (.val (.int .i64 gs.length)) := by
  refine p_start Try.func18 Try.ntmps18 rfl rfl rfl fun S w => ?_
  have hlm : (gs.map ntD).length = gs.length := List.length_map _
  repeat (first
    | refine awp_seq ?_
    | refine thenA_normal ?_
    | refine a_region ?_
    | refine awp_ret ?_
    | refine awp_skip ?_
    | refine r_done ?_
    | (refine r_id ?_; first
      | refine r_len tab_ok rfl rfl rfl rfl rfl rfl rfl ?_
      | refine r_ev tab_ok rfl rfl rfl rfl (by first | exact trivial | exact ⟨by omega, by omega⟩ | omega | exact ⟨by omega, by omega, by omega, by omega⟩ | exact Nat.le_of_ble_eq_true rfl) rfl ?_
      | refine r_nilck rfl rfl rfl rfl rfl rfl rfl ?_)
    | refine ret1 (by first | exact .inl rfl | exact .inr rfl) rfl rfl rfl ?_
    | refine awp_cond_f rfl ?_
    | refine r_by (fun _ => astep_eqnil_d underT rfl rfl rfl) rfl rfl rfl rfl rfl ?_)
  exact Sub.refl _
theorem lenNil_ok : PCalls Try.prog 18 [.val (.pointer none)] (.val (.int .i64 0)) := by
  refine p_start Try.func18 Try.ntmps18 rfl rfl rfl fun S w => ?_
  repeat (first
    | refine awp_seq ?_
    | refine thenA_normal ?_
    | refine a_region ?_
    | refine awp_ret ?_
    | refine thenA_ret ?_
    | refine r_done ?_
    | (refine r_id ?_; first
      | refine r_ev tab_ok rfl rfl rfl rfl (by first | exact trivial | exact ⟨by omega, by omega⟩ | omega | exact ⟨by omega, by omega, by omega, by omega⟩ | exact Nat.le_of_ble_eq_true rfl) rfl ?_)
    | refine ret1 (by first | exact .inl rfl | exact .inr rfl) rfl rfl rfl ?_
    | refine awp_cond_t rfl ?_
    | refine r_by (fun _ => astep_eqnil_nil underT rfl rfl rfl) rfl rfl rfl rfl rfl ?_)
  exact Sub.refl _
theorem has_ok (gs : List Nt) (i : Int) (hg : gs.length ≤ 1099511627776) : PCalls Try.prog 35 [trA gs, .val (.int .i64 i)] (.val (.bool (inB gs i))) := by
  refine p_start Try.func35 Try.ntmps35 rfl rfl rfl fun S w => ?_
  repeat (first
    | refine awp_seq ?_
    | refine thenA_normal ?_
    | refine a_region ?_
    | refine awp_ret ?_
    | refine r_done ?_
    | (refine r_id ?_; first
      | refine r_ev tab_ok rfl rfl rfl rfl (by first | exact trivial | exact ⟨by omega, by omega⟩ | omega | exact ⟨by omega, by omega, by omega, by omega⟩ | exact Nat.le_of_ble_eq_true rfl) rfl ?_
      | refine r_ev_cnd tab_ok rfl rfl rfl rfl rfl rfl (by first | exact fun _ => rfl | exact cs1 | exact cs2 | exact cs3) (by first | exact fun _ => trivial | (intro h; simp at h; first | exact ⟨by omega, by omega⟩ | omega)) rfl ?_
      | refine r_and rfl rfl rfl rfl rfl rfl rfl rfl ?_)
    | refine ret1 (by first | exact .inl rfl | exact .inr rfl) rfl rfl rfl ?_
    | refine r_call_cnd (fun _ => len_ok _ hg) call18 rfl rfl rfl rfl (by first | exact fun _ => rfl | exact cs1 | exact cs2 | exact cs3) ⟨Sub.refl _, trivial⟩ rfl rfl rfl rfl ?_)
  exact Sub.refl _
theorem parent_ok (gs : List Nt) (i : Int) (hg : gs.length ≤ 1099511627776) : PCalls Try.prog 46 [trA gs, .val (.int .i64 i)] (.val (.int .i64 (parF gs i))) := by
  have hh := has_ok gs i hg
  refine p_start Try.func46 Try.ntmps46 rfl rfl rfl fun S w => ?_
  rw [parF]
  cases hb : inB gs i with
  | false => 
    rw [hb] at hh
    repeat (first
      | refine awp_seq ?_
      | refine thenA_normal ?_
      | refine a_region ?_
      | refine awp_ret ?_
      | refine thenA_ret ?_
      | refine r_done ?_
      | (refine r_id ?_; first
        | refine r_ev tab_ok rfl rfl rfl rfl (by first | exact trivial | exact ⟨by omega, by omega⟩ | omega | exact ⟨by omega, by omega, by omega, by omega⟩ | exact Nat.le_of_ble_eq_true rfl) rfl ?_)
      | refine ret1 (by first | exact .inl rfl | exact .inr rfl) rfl rfl rfl ?_
      | refine awp_cond_t rfl ?_
      | refine r_call hh call35 rfl rfl ⟨Sub.refl _, Sub.refl _, trivial⟩ rfl rfl rfl rfl ?_)
    exact Sub.refl _
  | true =>
    rw [hb] at hh
    obtain ⟨h0, h1, h2⟩ := inB_t hb
    repeat (first
      | refine awp_seq ?_
      | refine thenA_normal ?_
      | refine a_region ?_
      | refine awp_ret ?_
      | refine awp_skip ?_
      | refine r_done ?_
      | (refine r_id ?_; first
        | refine r_ev tab_ok rfl rfl rfl rfl (by first | exact trivial | exact ⟨by omega, by omega⟩ | omega | exact ⟨by omega, by omega, by omega, by omega⟩ | exact Nat.le_of_ble_eq_true rfl) rfl ?_
        | refine r_idx tab_ok rfl rfl rfl rfl rfl rfl rfl (by first | exact ⟨by omega, by omega⟩ | (simp; omega)) rfl rfl ?_
        | refine r_nilck rfl rfl rfl rfl rfl rfl rfl ?_)
      | refine ret1 (by first | exact .inl rfl | exact .inr rfl) rfl rfl rfl ?_
      | refine awp_cond_f rfl ?_
      | refine r_call hh call35 rfl rfl ⟨Sub.refl _, Sub.refl _, trivial⟩ rfl rfl rfl rfl ?_)
    rw [ntAt_get h2]
    exact Sub.refl _
theorem depth_ok (gs : List Nt) (i : Int) (hg : gs.length ≤ 1099511627776) : PCalls Try.prog 27 [trA gs, .val (.int .i64 i)] (.val (.int .i64 (depF gs i))) := by
  have hh := has_ok gs i hg
  refine p_start Try.func27 Try.ntmps27 rfl rfl rfl fun S w => ?_
  rw [depF]
  cases hb : inB gs i with
  | false => 
    rw [hb] at hh
    repeat (first
      | refine awp_seq ?_
      | refine thenA_normal ?_
      | refine a_region ?_
      | refine awp_ret ?_
      | refine thenA_ret ?_
      | refine r_done ?_
      | (refine r_id ?_; first
        | refine r_ev tab_ok rfl rfl rfl rfl (by first | exact trivial | exact ⟨by omega, by omega⟩ | omega | exact ⟨by omega, by omega, by omega, by omega⟩ | exact Nat.le_of_ble_eq_true rfl) rfl ?_)
      | refine ret1 (by first | exact .inl rfl | exact .inr rfl) rfl rfl rfl ?_
      | refine awp_cond_t rfl ?_
      | refine r_call hh call35 rfl rfl ⟨Sub.refl _, Sub.refl _, trivial⟩ rfl rfl rfl rfl ?_)
    exact Sub.refl _
  | true =>
    rw [hb] at hh
    obtain ⟨h0, h1, h2⟩ := inB_t hb
    repeat (first
      | refine awp_seq ?_
      | refine thenA_normal ?_
      | refine a_region ?_
      | refine awp_ret ?_
      | refine awp_skip ?_
      | refine r_done ?_
      | (refine r_id ?_; first
        | refine r_ev tab_ok rfl rfl rfl rfl (by first | exact trivial | exact ⟨by omega, by omega⟩ | omega | exact ⟨by omega, by omega, by omega, by omega⟩ | exact Nat.le_of_ble_eq_true rfl) rfl ?_
        | refine r_idx tab_ok rfl rfl rfl rfl rfl rfl rfl (by first | exact ⟨by omega, by omega⟩ | (simp; omega)) rfl rfl ?_
        | refine r_nilck rfl rfl rfl rfl rfl rfl rfl ?_)
      | refine ret1 (by first | exact .inl rfl | exact .inr rfl) rfl rfl rfl ?_
      | refine awp_cond_f rfl ?_
      | refine r_call hh call35 rfl rfl ⟨Sub.refl _, Sub.refl _, trivial⟩ rfl rfl rfl rfl ?_)
    rw [ntAt_get h2]
    exact Sub.refl _
theorem element_ok (gs : List Nt) (i : Int) (hg : gs.length ≤ 1099511627776) : PCalls Try.prog 45 [trA gs, .val (.int .i64 i)] (.val (.bool (elB gs i))) := by
  have hh := has_ok gs i hg
  refine p_start Try.func45 Try.ntmps45 rfl rfl rfl fun S w => ?_
  rw [elB]
  cases hb : inB gs i with
  | false => 
    rw [hb] at hh
    repeat (first
      | refine awp_seq ?_
      | refine thenA_normal ?_
      | refine a_region ?_
      | refine awp_ret ?_
      | refine r_done ?_
      | (refine r_id ?_; first
        | refine r_ev tab_ok rfl rfl rfl rfl (by first | exact trivial | exact ⟨by omega, by omega⟩ | omega | exact ⟨by omega, by omega, by omega, by omega⟩ | exact Nat.le_of_ble_eq_true rfl) rfl ?_
        | refine r_ev_cnd tab_ok rfl rfl rfl rfl rfl rfl (by first | exact fun _ => rfl | exact cs1 | exact cs2 | exact cs3) (by first | exact fun _ => trivial | (intro h; simp at h; first | exact ⟨by omega, by omega⟩ | omega)) rfl ?_
        | refine r_pick_f rfl rfl rfl rfl rfl rfl rfl ?_
        | refine r_off rfl rfl rfl rfl rfl rfl ?_)
      | refine ret1 (by first | exact .inl rfl | exact .inr rfl) rfl rfl rfl ?_
      | refine r_call hh call35 rfl rfl ⟨Sub.refl _, Sub.refl _, trivial⟩ rfl rfl rfl rfl ?_)
    exact Sub.refl _
  | true =>
    rw [hb] at hh
    obtain ⟨h0, h1, h2⟩ := inB_t hb
    repeat (first
      | refine awp_seq ?_
      | refine thenA_normal ?_
      | refine a_region ?_
      | refine awp_ret ?_
      | refine r_done ?_
      | (refine r_id ?_; first
        | refine r_ev tab_ok rfl rfl rfl rfl (by first | exact trivial | exact ⟨by omega, by omega⟩ | omega | exact ⟨by omega, by omega, by omega, by omega⟩ | exact Nat.le_of_ble_eq_true rfl) rfl ?_
        | refine r_ev_cnd tab_ok rfl rfl rfl rfl rfl rfl (by first | exact fun _ => rfl | exact cs1 | exact cs2 | exact cs3) (by first | exact fun _ => trivial | (intro h; simp at h; first | exact ⟨by omega, by omega⟩ | omega)) rfl ?_
        | refine r_idx_cnd tab_ok rfl rfl rfl rfl rfl rfl rfl (by first | exact fun _ => rfl | exact cs1 | exact cs2) rfl rfl (by exact ⟨by omega, by omega⟩) rfl rfl ?_
        | refine r_and rfl rfl rfl rfl rfl rfl rfl rfl ?_)
      | refine ret1 (by first | exact .inl rfl | exact .inr rfl) rfl rfl rfl ?_
      | refine r_call hh call35 rfl rfl ⟨Sub.refl _, Sub.refl _, trivial⟩ rfl rfl rfl rfl ?_
      | refine r_by_cnd (fun _ => astep_nilCheck rfl rfl) rfl rfl rfl (by first | exact fun _ => rfl | exact cs1 | exact cs2 | exact cs3) rfl rfl rfl rfl ?_)
    first | (rw [ntAt_get h2]; exact Sub.refl _) | exact Sub.refl _ | trace_state
theorem cloneI_ok (l : List Nat) (h : l.length ≤ 1099511627776) : PCalls Try.prog 42 [.sl 1 (l.map nD)] (.sl 1 (l.map nD)) := by
  refine p_start Try.func42 Try.ntmps42 rfl rfl rfl fun S w => ?_
  have hlm : (l.map nD).length = l.length := List.length_map _
  repeat (first
    | refine awp_seq ?_
    | refine thenA_normal ?_
    | refine a_region ?_
    | refine r_done ?_
    | (refine r_id ?_; first
      | refine r_ev tab_ok rfl rfl rfl rfl (by first | exact trivial | exact ⟨by omega, by omega⟩ | omega | exact ⟨by omega, by omega, by omega, by omega⟩ | exact Nat.le_of_ble_eq_true rfl) rfl ?_))
  refine awp_cond_u rfl (fun h => ?_) (fun _ => ?_)
  · repeat (first
      | refine awp_seq ?_
      | refine thenA_normal ?_
      | refine a_region ?_
      | refine awp_ret ?_
      | refine thenA_ret ?_
      | refine r_done ?_
      | (refine r_id ?_; first
        | refine r_ev tab_ok rfl rfl rfl rfl (by first | exact trivial | exact ⟨by omega, by omega⟩ | omega | exact ⟨by omega, by omega, by omega, by omega⟩ | exact Nat.le_of_ble_eq_true rfl) rfl ?_)
      | refine ret1 (by first | exact .inl rfl | exact .inr rfl) rfl rfl rfl ?_)
    have : l = [] := by simpa using h
    subst this
    exact Sub.nil 1
  · repeat (first
      | refine awp_seq ?_
      | refine thenA_normal ?_
      | refine a_region ?_
      | refine awp_ret ?_
      | refine awp_skip ?_
      | refine r_done ?_
      | (refine r_id ?_; first
        | refine r_ev tab_ok rfl rfl rfl rfl (by first | exact trivial | exact ⟨by omega, by omega⟩ | omega | exact ⟨by omega, by omega, by omega, by omega⟩ | exact Nat.le_of_ble_eq_true rfl) rfl ?_
        | refine r_built0 tab_ok rfl rfl rfl rfl rfl rfl rfl ?_
        | refine r_append tab_ok rfl rfl rfl rfl rfl rfl rfl rfl rfl (by first | omega | (simp; omega)) rfl ?_)
      | refine ret1_row (by first | exact .inl rfl | exact .inr rfl) rfl rfl rfl ?_)
    exact Sub.refl _
theorem cloneA_ok (l : List At) (h : l.length ≤ 1099511627776) : PCalls Try.prog 36 [.sl 2 (l.map atD)] (.sl 2 (l.map atD)) := by
  refine p_start Try.func36 Try.ntmps36 rfl rfl rfl fun S w => ?_
  have hlm : (l.map atD).length = l.length := List.length_map _
  repeat (first
    | refine awp_seq ?_
    | refine thenA_normal ?_
    | refine a_region ?_
    | refine r_done ?_
    | (refine r_id ?_; first
      | refine r_ev tab_ok rfl rfl rfl rfl (by first | exact trivial | exact ⟨by omega, by omega⟩ | omega | exact ⟨by omega, by omega, by omega, by omega⟩ | exact Nat.le_of_ble_eq_true rfl) rfl ?_))
  refine awp_cond_u rfl (fun h => ?_) (fun _ => ?_)
  · repeat (first
      | refine awp_seq ?_
      | refine thenA_normal ?_
      | refine a_region ?_
      | refine awp_ret ?_
      | refine thenA_ret ?_
      | refine r_done ?_
      | (refine r_id ?_; first
        | refine r_ev tab_ok rfl rfl rfl rfl (by first | exact trivial | exact ⟨by omega, by omega⟩ | omega | exact ⟨by omega, by omega, by omega, by omega⟩ | exact Nat.le_of_ble_eq_true rfl) rfl ?_)
      | refine ret1 (by first | exact .inl rfl | exact .inr rfl) rfl rfl rfl ?_)
    have : l = [] := by simpa using h
    subst this
    exact Sub.nil 2
  · repeat (first
      | refine awp_seq ?_
      | refine thenA_normal ?_
      | refine a_region ?_
      | refine awp_ret ?_
      | refine awp_skip ?_
      | refine r_done ?_
      | (refine r_id ?_; first
        | refine r_ev tab_ok rfl rfl rfl rfl (by first | exact trivial | exact ⟨by omega, by omega⟩ | omega | exact ⟨by omega, by omega, by omega, by omega⟩ | exact Nat.le_of_ble_eq_true rfl) rfl ?_
        | refine r_built0 tab_ok rfl rfl rfl rfl rfl rfl rfl ?_
        | refine r_append tab_ok rfl rfl rfl rfl rfl rfl rfl rfl rfl (by first | omega | (simp; omega)) rfl ?_)
      | refine ret1_row (by first | exact .inl rfl | exact .inr rfl) rfl rfl rfl ?_)
    exact Sub.refl _
theorem kids_ok (gs : List Nt) (i : Int) (hg : gs.length ≤ 1099511627776) (hk : ∀ n ∈ gs, n.kids.length ≤ 1099511627776) : PCalls Try.prog 24 [trA gs, .val (.int .i64 i)] (.sl 1 ((kidF gs i).map nD)) := by
  have hh := has_ok gs i hg
  refine p_start Try.func24 Try.ntmps24 rfl rfl rfl fun S w => ?_
  rw [kidF]
  cases hb : inB gs i with
  | false => 
    rw [hb] at hh
    repeat (first
      | refine awp_seq ?_
      | refine thenA_normal ?_
      | refine a_region ?_
      | refine awp_ret ?_
      | refine thenA_ret ?_
      | refine r_done ?_
      | (refine r_id ?_; first
        | refine r_ev tab_ok rfl rfl rfl rfl (by first | exact trivial | exact ⟨by omega, by omega⟩ | omega | exact ⟨by omega, by omega, by omega, by omega⟩ | exact Nat.le_of_ble_eq_true rfl) rfl ?_)
      | refine ret1 (by first | exact .inl rfl | exact .inr rfl) rfl rfl rfl ?_
      | refine awp_cond_t rfl ?_
      | refine r_call hh call35 rfl rfl ⟨Sub.refl _, Sub.refl _, trivial⟩ rfl rfl rfl rfl ?_)
    exact Sub.nil 1
  | true =>
    rw [hb] at hh
    obtain ⟨h0, h1, h2⟩ := inB_t hb
    repeat (first
      | refine awp_seq ?_
      | refine thenA_normal ?_
      | refine a_region ?_
      | refine awp_skip ?_
      | refine r_done ?_
      | (refine r_id ?_; first
        | refine r_ev tab_ok rfl rfl rfl rfl (by first | exact trivial | exact ⟨by omega, by omega⟩ | omega | exact ⟨by omega, by omega, by omega, by omega⟩ | exact Nat.le_of_ble_eq_true rfl) rfl ?_
        | refine r_idx tab_ok rfl rfl rfl rfl rfl rfl rfl (by first | exact ⟨by omega, by omega⟩ | (simp; omega)) rfl rfl ?_
        | refine r_nilck rfl rfl rfl rfl rfl rfl rfl ?_)
      | refine awp_cond_f rfl ?_
      | refine r_call hh call35 rfl rfl ⟨Sub.refl _, Sub.refl _, trivial⟩ rfl rfl rfl rfl ?_)
    rw [ntAt_get h2] at *
    refine r_call (cloneI_ok _ (hk _ (by rw [← ntAt_get h2]; exact List.getElem_mem h2))) call42 rfl rfl ⟨Sub.refl _, trivial⟩ rfl rfl rfl rfl ?_
    repeat (first
      | refine thenA_normal ?_
      | refine awp_ret ?_
      | refine r_done ?_
      | (refine r_id ?_; first
        | refine r_ev tab_ok rfl rfl rfl rfl (by first | exact trivial | exact ⟨by omega, by omega⟩ | omega | exact ⟨by omega, by omega, by omega, by omega⟩ | exact Nat.le_of_ble_eq_true rfl) rfl ?_)
      | refine ret1 (by first | exact .inl rfl | exact .inr rfl) rfl rfl rfl ?_)
    exact Sub.refl _
theorem node_ok (gs : List Nt) (i : Int) (hg : gs.length ≤ 1099511627776) (hk : ∀ n ∈ gs, n.r.attrs.length ≤ 1099511627776) : PCalls Try.prog 15 [trA gs, .val (.int .i64 i)] (.tup [rwA (nodeF gs i), .val (.bool (inB gs i))]) := by
  have hh := has_ok gs i hg
  refine p_start Try.func15 Try.ntmps15 rfl rfl rfl fun S w => ?_
  rw [nodeF]
  cases hb : inB gs i with
  | false => 
    rw [hb] at hh
    repeat (first
      | refine awp_seq ?_
      | refine thenA_normal ?_
      | refine a_region ?_
      | refine awp_ret ?_
      | refine thenA_ret ?_
      | refine r_done ?_
      | (refine r_id ?_; first
        | refine r_ev tab_ok rfl rfl rfl rfl (by first | exact trivial | exact ⟨by omega, by omega⟩ | omega | exact ⟨by omega, by omega, by omega, by omega⟩ | exact Nat.le_of_ble_eq_true rfl) rfl ?_
        | refine r_wr tab_ok rfl rfl rfl rfl rfl ?_
        | refine r_st tab_ok rfl rfl rfl rfl ?_
        | refine r_build tab_ok rfl rfl rfl rfl rfl rfl ?_)
      | refine awp_cond_t rfl ?_
      | refine r_call hh call35 rfl rfl ⟨Sub.refl _, Sub.refl _, trivial⟩ rfl rfl rfl rfl ?_)
    exact ret2ct tab_ok (by first | exact .inl rfl | exact .inr rfl) rfl rfl rfl rfl rfl rfl rfl (Sub.agg ⟨Sub.refl _, Sub.refl _, Sub.refl _, Sub.nil 2, trivial⟩) (Sub.refl _)
  | true =>
    rw [hb] at hh
    obtain ⟨h0, h1, h2⟩ := inB_t hb
    repeat (first
      | refine awp_seq ?_
      | refine thenA_normal ?_
      | refine a_region ?_
      | refine awp_skip ?_
      | refine r_done ?_
      | (refine r_id ?_; first
        | refine r_ev tab_ok rfl rfl rfl rfl (by first | exact trivial | exact ⟨by omega, by omega⟩ | omega | exact ⟨by omega, by omega, by omega, by omega⟩ | exact Nat.le_of_ble_eq_true rfl) rfl ?_
        | refine r_ld tab_ok rfl rfl rfl rfl rfl ?_
        | refine r_idx tab_ok rfl rfl rfl rfl rfl rfl rfl (by first | exact ⟨by omega, by omega⟩ | (simp; omega)) rfl rfl ?_
        | refine r_wr tab_ok rfl rfl rfl rfl rfl ?_
        | refine r_st tab_ok rfl rfl rfl rfl ?_
        | refine r_nilck rfl rfl rfl rfl rfl rfl rfl ?_)
      | refine awp_cond_f rfl ?_
      | refine r_call hh call35 rfl rfl ⟨Sub.refl _, Sub.refl _, trivial⟩ rfl rfl rfl rfl ?_)
    rw [ntAt_get h2]
    refine r_call (cloneA_ok _ (hk _ (by rw [← ntAt_get h2]; exact List.getElem_mem h2))) call36 rfl rfl ⟨Sub.refl _, trivial⟩ rfl rfl rfl rfl ?_
    repeat (first
      | refine awp_seq ?_
      | refine thenA_normal ?_
      | refine a_region ?_
      | refine awp_ret ?_
      | refine r_done ?_
      | (refine r_id ?_; first
        | refine r_ev tab_ok rfl rfl rfl rfl (by first | exact trivial | exact ⟨by omega, by omega⟩ | omega | exact ⟨by omega, by omega, by omega, by omega⟩ | exact Nat.le_of_ble_eq_true rfl) rfl ?_
        | refine r_ld tab_ok rfl rfl rfl rfl rfl ?_
        | refine r_st tab_ok rfl rfl rfl rfl ?_))
    exact ret2ct tab_ok (by first | exact .inl rfl | exact .inr rfl) rfl rfl rfl rfl rfl rfl rfl (Sub.refl _) (Sub.refl _)
theorem attr_ok (gs : List Nt) (i : Int) (n : ByteArray) (hg : gs.length ≤ 1099511627776) (hk : ∀ n ∈ gs, n.r.attrs.length ≤ 1099511627776) : PCalls Try.prog 14 [trA gs, .val (.int .i64 i), .val (.string n)] (.tup [.val (.string (attrF gs i n).1), .val (.bool (attrF gs i n).2)]) := by
  have hh := has_ok gs i hg
  refine p_start Try.func14 Try.ntmps14 rfl rfl rfl fun S w => ?_
  rw [attrF]
  cases hb : inB gs i with
  | false => 
    rw [hb] at hh
    repeat (first
      | refine awp_seq ?_
      | refine thenA_normal ?_
      | refine a_region ?_
      | refine awp_ret ?_
      | refine thenA_ret ?_
      | refine r_done ?_
      | (refine r_id ?_; first
        | refine r_ev tab_ok rfl rfl rfl rfl (by first | exact trivial | exact ⟨by omega, by omega⟩ | omega | exact ⟨by omega, by omega, by omega, by omega⟩ | exact Nat.le_of_ble_eq_true rfl) rfl ?_)
      | refine ret2 (by first | exact .inl rfl | exact .inr rfl) rfl rfl rfl rfl ?_ ?_
      | refine awp_cond_t rfl ?_
      | refine r_call hh call35 rfl rfl ⟨Sub.refl _, Sub.refl _, trivial⟩ rfl rfl rfl rfl ?_)
    all_goals exact Sub.refl _
  | true =>
    rw [hb] at hh
    obtain ⟨h0, h1, h2⟩ := inB_t hb
    repeat (first
      | refine awp_seq ?_
      | refine thenA_normal ?_
      | refine awp_block ?_
      | refine a_region ?_
      | refine awp_skip ?_
      | refine r_done ?_
      | (refine r_id ?_; first
        | refine r_len tab_ok rfl rfl rfl rfl rfl rfl rfl ?_
        | refine r_ev tab_ok rfl rfl rfl rfl (by first | exact trivial | exact ⟨by omega, by omega⟩ | omega | exact ⟨by omega, by omega, by omega, by omega⟩ | exact Nat.le_of_ble_eq_true rfl) rfl ?_
        | refine r_idx tab_ok rfl rfl rfl rfl rfl rfl rfl (by first | exact ⟨by omega, by omega⟩ | (simp; omega)) rfl rfl ?_
        | refine r_nilck rfl rfl rfl rfl rfl rfl rfl ?_)
      | refine awp_cond_f rfl ?_
      | refine r_call hh call35 rfl rfl ⟨Sub.refl _, Sub.refl _, trivial⟩ rfl rfl rfl rfl ?_)
    rw [ntAt_get h2]
    rw [if_pos rfl]
    have hkl := hk _ (List.getElem_mem h2)
    rw [ntAt_get h2] at hkl
    generalize (ntAt gs i.toNat).r.attrs = l at hkl ⊢
    refine a_loop (σ := {j : Nat // j ≤ l.length ∧ attrL (l.drop j) n = attrL l n}) (fun _ => []) (fun x => [(2, .val (.string n)), (22, .sl 2 (l.map atD)), (23, .val (.int .i64 l.length)), (24, .val (.int .i64 x.1))]) (fun x => l.length - x.1) ⟨0, Nat.zero_le _, rfl⟩
      (fits_of rfl ⟨Sub.refl _, Sub.refl _, Sub.refl _, Sub.refl _, trivial⟩) ?_
    rintro ⟨j, hj, heq⟩
    dsimp only
    repeat (first
      | refine awp_seq ?_
      | refine a_region ?_
      | refine r_done ?_
      | (refine r_id ?_; first
        | refine r_ev tab_ok rfl rfl rfl rfl (by first | exact trivial | exact ⟨by omega, by omega⟩ | omega | exact ⟨by omega, by omega, by omega, by omega⟩ | exact Nat.le_of_ble_eq_true rfl) rfl ?_))
    refine awp_cond_p rfl (fun hlt => ?_) (fun hge => ?_)
    · have hj' : j < l.length := by omega
      rw [List.drop_eq_getElem_cons hj', attrL] at heq
      repeat (first
        | refine awp_seq ?_
        | refine thenA_normal ?_
        | refine awp_block ?_
        | refine a_region ?_
        | refine awp_skip ?_
        | refine r_done ?_
        | (refine r_id ?_; first
          | refine r_ev tab_ok rfl rfl rfl rfl (by first | exact trivial | exact ⟨by omega, by omega⟩ | omega | exact ⟨by omega, by omega, by omega, by omega⟩ | exact Nat.le_of_ble_eq_true rfl) rfl ?_
          | refine r_ld tab_ok rfl rfl rfl rfl rfl ?_
          | refine r_idx tab_ok rfl rfl rfl rfl rfl rfl rfl (by first | exact ⟨by omega, by omega⟩ | (simp; omega)) rfl rfl ?_
          | refine r_wr tab_ok rfl rfl rfl rfl rfl ?_
          | refine r_st tab_ok rfl rfl rfl rfl ?_))
      simp only [Int.toNat_natCast]
      refine awp_cond_p rfl (fun hb => ?_) (fun hb => ?_)
      · rw [if_pos hb] at heq
        rw [← heq]
        repeat (first
          | refine awp_seq ?_
          | refine thenA_normal ?_
          | refine a_region ?_
          | refine awp_ret ?_
          | refine thenA_ret ?_
          | refine blockA_ret ?_
          | refine r_done ?_
          | (refine r_id ?_; first
            | refine r_ev tab_ok rfl rfl rfl rfl (by first | exact trivial | exact ⟨by omega, by omega⟩ | omega | exact ⟨by omega, by omega, by omega, by omega⟩ | exact Nat.le_of_ble_eq_true rfl) rfl ?_
            | refine r_ld tab_ok rfl rfl rfl rfl rfl ?_)
          | refine ret2 (by first | exact .inl rfl | exact .inr rfl) rfl rfl rfl rfl ?_ ?_)
        all_goals exact Sub.refl _
      · rw [if_neg hb] at heq
        repeat (first
          | refine thenA_normal ?_
          | refine a_region ?_
          | refine awp_skip ?_
          | refine r_done ?_
          | (refine r_id ?_; first
            | refine r_ev tab_ok rfl rfl rfl rfl (by first | exact trivial | exact ⟨by omega, by omega⟩ | omega | exact ⟨by omega, by omega, by omega, by omega⟩ | exact Nat.le_of_ble_eq_true rfl) rfl ?_))
        exact ⟨⟨j + 1, by omega, heq⟩, by dsimp only; omega, fits_drop 0 rfl rfl (by repeat' first | exact trivial | exact Sub.refl _ | exact rfl | apply And.intro)⟩
    · have : j = l.length := by omega
      subst this
      rw [List.drop_length, attrL] at heq
      rw [← heq]
      repeat (first
        | refine awp_seq ?_
        | refine thenA_normal ?_
        | refine a_region ?_
        | refine awp_ret ?_
        | refine awp_exit ?_
        | refine r_done ?_
        | (refine r_id ?_; first
          | refine r_ev tab_ok rfl rfl rfl rfl (by first | exact trivial | exact ⟨by omega, by omega⟩ | omega | exact ⟨by omega, by omega, by omega, by omega⟩ | exact Nat.le_of_ble_eq_true rfl) rfl ?_)
        | refine ret2 (by first | exact .inl rfl | exact .inr rfl) rfl rfl rfl rfl ?_ ?_)
      all_goals exact Sub.refl _
/-- Is a node another one, or within it? -/
def undN (gs : List Nt) (l : List Rw) (i top : Int) : Bool := inB gs i && inB gs top && under l i.toNat top.toNat
theorem under_ok {gs : List Nt} {l : List Rw} (hg : gs.length ≤ 1099511627776) (hgd : Good l gs) (hl : gs.length = l.length) (i top : Int) : PCalls Try.prog 13 [trA gs, .val (.int .i64 i), .val (.int .i64 top)] (.val (.bool (undN gs l i top))) := by
  have hh := has_ok gs i hg
  have hh' := has_ok gs top hg
  have hp : okPar l := fun i h0 h => ⟨(hgd.par i h0 (by omega)).1, (hgd.par i h0 (by omega)).2.1⟩
  refine p_start Try.func13 Try.ntmps13 rfl rfl rfl fun S w => ?_
  rw [undN]
  cases hb : inB gs i with
  | false => 
    rw [hb] at hh
    repeat (first
      | refine awp_seq ?_
      | refine thenA_normal ?_
      | refine a_region ?_
      | refine awp_ret ?_
      | refine thenA_ret ?_
      | refine r_done ?_
      | (refine r_id ?_; first
        | refine r_ev tab_ok rfl rfl rfl rfl (by first | exact trivial | exact ⟨by omega, by omega⟩ | omega | exact ⟨by omega, by omega, by omega, by omega⟩ | exact Nat.le_of_ble_eq_true rfl) rfl ?_
        | refine r_ev_cnd tab_ok rfl rfl rfl rfl rfl rfl (by first | exact fun _ => rfl | exact cs1 | exact cs2 | exact cs3) (by first | exact fun _ => trivial | (intro h; simp at h; first | exact ⟨by omega, by omega⟩ | omega)) rfl ?_
        | refine r_pick_t rfl rfl rfl rfl rfl rfl rfl ?_
        | refine r_off rfl rfl rfl rfl rfl rfl ?_)
      | refine ret1 (by first | exact .inl rfl | exact .inr rfl) rfl rfl rfl ?_
      | refine awp_cond_t rfl ?_
      | refine r_call hh call35 rfl rfl ⟨Sub.refl _, Sub.refl _, trivial⟩ rfl rfl rfl rfl ?_)
    exact Sub.refl _
  | true =>
    cases ht : inB gs top with
    | false =>
      rw [hb] at hh; rw [ht] at hh'
      repeat (first
        | refine awp_seq ?_
        | refine thenA_normal ?_
        | refine a_region ?_
        | refine awp_ret ?_
        | refine thenA_ret ?_
        | refine r_done ?_
        | (refine r_id ?_; first
          | refine r_ev tab_ok rfl rfl rfl rfl (by first | exact trivial | exact ⟨by omega, by omega⟩ | omega | exact ⟨by omega, by omega, by omega, by omega⟩ | exact Nat.le_of_ble_eq_true rfl) rfl ?_
          | refine r_ev_cnd tab_ok rfl rfl rfl rfl rfl rfl (by first | exact fun _ => rfl | exact cs1 | exact cs2 | exact cs3) (by first | exact fun _ => trivial | (intro h; simp at h; first | exact ⟨by omega, by omega⟩ | omega)) rfl ?_
          | refine r_or rfl rfl rfl rfl rfl rfl rfl rfl ?_)
        | refine ret1 (by first | exact .inl rfl | exact .inr rfl) rfl rfl rfl ?_
        | refine awp_cond_t rfl ?_
        | refine r_call hh call35 rfl rfl ⟨Sub.refl _, Sub.refl _, trivial⟩ rfl rfl rfl rfl ?_
        | refine r_call_cnd (fun _ => hh') call35 rfl rfl rfl rfl (by first | exact fun _ => rfl | exact cs1 | exact cs2 | exact cs3) ⟨Sub.refl _, Sub.refl _, trivial⟩ rfl rfl rfl rfl ?_)
      exact Sub.refl _
    | true =>
      rw [hb] at hh; rw [ht] at hh'
      obtain ⟨h0, h1, h2⟩ := inB_t hb
      obtain ⟨t0, t1, t2⟩ := inB_t ht
      repeat (first
        | refine awp_seq ?_
        | refine thenA_normal ?_
        | refine awp_block ?_
        | refine a_region ?_
        | refine awp_skip ?_
        | refine r_done ?_
        | (refine r_id ?_; first
          | refine r_ev tab_ok rfl rfl rfl rfl (by first | exact trivial | exact ⟨by omega, by omega⟩ | omega | exact ⟨by omega, by omega, by omega, by omega⟩ | exact Nat.le_of_ble_eq_true rfl) rfl ?_
          | refine r_ev_cnd tab_ok rfl rfl rfl rfl rfl rfl (by first | exact fun _ => rfl | exact cs1 | exact cs2 | exact cs3) (by first | exact fun _ => trivial | (intro h; simp at h; first | exact ⟨by omega, by omega⟩ | omega)) rfl ?_
          | refine r_or rfl rfl rfl rfl rfl rfl rfl rfl ?_)
        | refine awp_cond_f rfl ?_
        | refine r_call hh call35 rfl rfl ⟨Sub.refl _, Sub.refl _, trivial⟩ rfl rfl rfl rfl ?_
        | refine r_call_cnd (fun _ => hh') call35 rfl rfl rfl rfl (by first | exact fun _ => rfl | exact cs1 | exact cs2 | exact cs3) ⟨Sub.refl _, Sub.refl _, trivial⟩ rfl rfl rfl rfl ?_)
      refine a_loop (σ := {j : Nat // j < gs.length ∧ under l j top.toNat = under l i.toNat top.toNat}) (fun _ => []) (fun x => [(0, trA gs), (1, .val (.int .i64 x.1)), (2, .val (.int .i64 top))]) (fun x => x.1) ⟨i.toNat, h2, rfl⟩
        (fits_of rfl ⟨Sub.refl _, Sub.of_eq (by show AV.val (.int .i64 i) = .val (.int .i64 ((i.toNat : Nat) : Int)); rw [Int.toNat_of_nonneg h0]), Sub.refl _, trivial⟩) ?_
      rintro ⟨j, hj, heq⟩
      dsimp only
      repeat (first
        | refine awp_seq ?_
        | refine thenA_normal ?_
        | refine a_region ?_
        | refine r_done ?_
        | (refine r_id ?_; first
          | refine r_ev tab_ok rfl rfl rfl rfl (by first | exact trivial | exact ⟨by omega, by omega⟩ | omega | exact ⟨by omega, by omega, by omega, by omega⟩ | exact Nat.le_of_ble_eq_true rfl) rfl ?_))
      refine awp_cond_p rfl (fun hlt => ?_) (fun hge => ?_)
      · repeat (first
          | refine thenA_normal ?_
          | refine awp_block ?_
          | refine a_region ?_
          | refine blockA_normal ?_
          | refine awp_skip ?_
          | refine r_done ?_
          | (refine r_id ?_; first
            | refine r_ev tab_ok rfl rfl rfl rfl (by first | exact trivial | exact ⟨by omega, by omega⟩ | omega | exact ⟨by omega, by omega, by omega, by omega⟩ | exact Nat.le_of_ble_eq_true rfl) rfl ?_
            | refine r_idx tab_ok rfl rfl rfl rfl rfl rfl rfl (by first | exact ⟨by omega, by omega⟩ | (simp; omega)) rfl rfl ?_
            | refine r_nilck rfl rfl rfl rfl rfl rfl rfl ?_))
        simp only [Int.toNat_natCast]
        rw [ntAt_get hj, hgd.r j hj]
        have hpj := hp j (by omega) (by omega)
        rw [under_gt hp (by omega) (by omega)] at heq
        exact ⟨⟨(rwAt l j).parent.toNat, by omega, heq⟩, by dsimp only; omega, fits_of rfl ⟨Sub.refl _, Sub.of_eq (by show AV.val (.int .i64 (rwAt l j).parent) = .val (.int .i64 ((rwAt l j).parent.toNat : Nat)); rw [Int.toNat_of_nonneg hpj.1]), Sub.refl _, trivial⟩⟩
      · repeat (first
          | refine awp_seq ?_
          | refine thenA_normal ?_
          | refine a_region ?_
          | refine awp_ret ?_
          | refine awp_exit ?_
          | refine r_done ?_
          | (refine r_id ?_; first
            | refine r_ev tab_ok rfl rfl rfl rfl (by first | exact trivial | exact ⟨by omega, by omega⟩ | omega | exact ⟨by omega, by omega, by omega, by omega⟩ | exact Nat.le_of_ble_eq_true rfl) rfl ?_)
          | refine ret1 (by first | exact .inl rfl | exact .inr rfl) rfl rfl rfl ?_)
        exact Sub.of_eq (by rw [← heq, under_le (by omega)]; congr 2; exact decide_eq_decide.2 (by omega))
end Go.Proofs.Ytklodolkgdmhoaa
