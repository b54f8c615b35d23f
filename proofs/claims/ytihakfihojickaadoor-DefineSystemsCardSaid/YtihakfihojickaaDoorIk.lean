import Derived.Test.YtihakfihojickaaDoorF4
import Derived.Test.YtihakfihojickaaDoorr3
import Derived.Test.YtihakfihojickaaDoorIg
/- The reference's Decimal of a number from 0 on; walked. -/
namespace Go.Proofs.YtihakfihojickaaDoor
open Go Go.RowKit
set_option maxRecDepth 20000

def dgtR : Nat → Nat → ByteArray → ByteArray
  | 0, _, d => d
  | f + 1, u, d => if 0 < u ∨ d = ⟨#[]⟩ then dgtR f (u / 10) (bytesStr [48 + (u : Int) % 10] ++ d) else d
def decN (n : Nat) : ByteArray := dgtR 21 n ⟨#[]⟩
theorem bs_nil_app (d : ByteArray) : (⟨#[]⟩ : ByteArray) ++ d = d := by
  apply ByteArray.ext
  simp [ByteArray.data_append]
theorem bs_one_size (x : Int) (d : ByteArray) : (bytesStr [x] ++ d).size = d.size + 1 := by
  rw [ByteArray.size_append]
  show 1 + d.size = _
  omega
theorem bs_one_ne (x : Int) (d : ByteArray) : bytesStr [x] ++ d ≠ ⟨#[]⟩ := by
  intro h
  have := congrArg ByteArray.size h
  rw [bs_one_size] at this
  exact absurd this (by show ¬ (d.size + 1 = 0); omega)
structure DeS (n : Nat) where
  f : Nat
  u : Nat
  d : ByteArray
  hu : u < 10 ^ (f - 1)
  hn : u < 9223372036854775808
  h1 : 1 ≤ f
  he : f = 1 → d ≠ ⟨#[]⟩
  hd : d.size + f ≤ 21
  eq : dgtR f u d = decN n
set_option maxHeartbeats 1000000 in
theorem decimal_ok (n : Nat) (hn : n < 9223372036854775808) : PCalls Tryd.prog 9 [.val (.int .i64 n)] (.val (.string (decN n))) := by
  refine p_start Tryd.func9 Tryd.ntmps9 rfl rfl rfl fun S w => ?_
  have h0 : ¬ (n : Int) < 0 := by omega
  repeat (first | refine awp_seq ?_ | refine thenA_normal ?_ | refine awp_block ?_ | refine a_region ?_ | refine awp_skip ?_ | refine r_done ?_ | (refine r_id ?_; first | refine r_ev tab_ok rfl rfl rfl rfl byE rfl ?_) | refine awp_cond_f rfl ?_)
  refine a_loop (σ := DeS n) (fun _ => []) (fun x => [(3, .val (.int .u64 x.u)), (4, .val (.string ⟨#[]⟩)), (5, .val (.string x.d))]) (fun x => x.f) ⟨21, n, ⟨#[]⟩, by omega, hn, by omega, by omega, by decide, rfl⟩ (fits_of rfl ⟨Sub.refl _, Sub.refl _, Sub.refl _, trivial⟩) ?_
  rintro ⟨f, u, d, hu, hn, h1, he, hd, heq⟩
  dsimp only
  rw [← heq]
  obtain ⟨f, rfl⟩ : ∃ k, f = k + 1 := ⟨f - 1, by omega⟩
  rw [Nat.add_sub_cancel] at hu
  by_cases hp : 0 < u
  · have hf : 1 ≤ f := by
      rcases Nat.eq_zero_or_pos f with rfl | h
      · simp at hu; omega
      · exact h
    have hu2 : u / 10 < 10 ^ (f - 1) := by
      obtain ⟨g, rfl⟩ : ∃ k, f = k + 1 := ⟨f - 1, by omega⟩
      rw [Nat.add_sub_cancel]
      rw [Nat.pow_succ] at hu
      omega
    have e : dgtR (f + 1) u d = dgtR f (u / 10) (bytesStr [48 + (u : Int) % 10] ++ d) := by rw [dgtR, if_pos (.inl hp)]
    rw [e]
    repeat (first | refine awp_seq ?_ | refine thenA_normal ?_ | refine awp_block ?_ | refine a_region ?_ | refine awp_skip ?_ | refine r_done ?_ | (refine r_id ?_; first | refine r_ev tab_ok rfl rfl rfl rfl byE rfl ?_ | refine r_bstr tab_ok rfl rfl rfl rfl rfl rfl rfl rfl rfl rfl ?_ | refine r_built tab_ok rfl rfl rfl rfl rfl rfl rfl rfl rfl ?_) | refine awp_cond_t rfl ?_ | refine r_pick_t rfl rfl (congrArg (fun b => AV.val (.bool b)) (decide_eq_true (by omega))) rfl rfl rfl rfl ?_ | refine r_off rfl rfl (congrArg (fun b => AV.val (.bool b)) (decide_eq_true (by omega))) rfl rfl rfl ?_)
    refine r_ev tab_ok rfl rfl rfl rfl (by show 1 + d.size ≤ _; omega) rfl ?_
    repeat (first | refine thenA_normal ?_ | refine a_region ?_ | refine blockA_normal ?_ | refine r_done ?_ | (refine r_id ?_; first | refine r_ev tab_ok rfl rfl rfl rfl byE rfl ?_))
    exact ⟨⟨f, u / 10, bytesStr [48 + (u : Int) % 10] ++ d, hu2, by omega, hf, fun _ => bs_one_ne _ _, by rw [bs_one_size]; omega, by rw [← heq, e]⟩, by dsimp only; omega, fits_of rfl ⟨Sub.of_eq (by simp only [Int.natCast_ediv]; rfl), Sub.refl _, Sub.refl _, trivial⟩⟩
  · have hz : u = 0 := by omega
    subst hz
    repeat (first | refine awp_seq ?_ | refine thenA_normal ?_ | refine a_region ?_ | refine r_done ?_ | (refine r_id ?_; first | refine r_ev tab_ok rfl rfl rfl rfl byE rfl ?_ | refine r_pick_f rfl rfl rfl rfl rfl rfl rfl ?_ | refine r_ev_on tab_ok rfl rfl rfl rfl rfl rfl (by first | exact trivial | exact ⟨by omega, by omega⟩ | omega) rfl ?_))
    refine awp_cond_p rfl (fun h => ?_) (fun h => ?_)
    · have hf : 1 ≤ f := by
        rcases Nat.eq_zero_or_pos f with rfl | h2
        · exact absurd h (he rfl)
        · exact h2
      have e : dgtR (f + 1) 0 d = dgtR f 0 (bytesStr [48 + ((0 : Nat) : Int) % 10] ++ d) := by rw [dgtR, if_pos (.inr h)]
      rw [e]
      repeat (first | refine awp_seq ?_ | refine thenA_normal ?_ | refine awp_block ?_ | refine a_region ?_ | refine awp_skip ?_ | (refine r_id ?_; first | refine r_ev tab_ok rfl rfl rfl rfl byE rfl ?_ | refine r_bstr tab_ok rfl rfl rfl rfl rfl rfl rfl rfl rfl rfl ?_ | refine r_built tab_ok rfl rfl rfl rfl rfl rfl rfl rfl rfl ?_))
      refine r_ev tab_ok rfl rfl rfl rfl (by show 1 + d.size ≤ _; omega) rfl ?_
      repeat (first | refine thenA_normal ?_ | refine a_region ?_ | refine blockA_normal ?_ | refine r_done ?_ | (refine r_id ?_; first | refine r_ev tab_ok rfl rfl rfl rfl byE rfl ?_))
      exact ⟨⟨f, 0, bytesStr [48 + ((0 : Nat) : Int) % 10] ++ d, Nat.pow_pos (by decide), by omega, hf, fun _ => bs_one_ne _ _, by rw [bs_one_size]; omega, by rw [← heq, e]⟩, by dsimp only; omega, fits_of rfl ⟨Sub.refl _, Sub.refl _, Sub.refl _, trivial⟩⟩
    · have e : dgtR (f + 1) 0 d = d := by rw [dgtR, if_neg (by rintro (h2 | h2); exact absurd h2 (Nat.lt_irrefl _); exact h h2)]
      rw [e]
      repeat (first | refine awp_seq ?_ | refine a_region ?_ | refine awp_exit ?_ | (refine r_id ?_; first | refine r_ev tab_ok rfl rfl rfl rfl byE rfl ?_))
      refine r_ev tab_ok rfl rfl rfl rfl (by show 0 + d.size ≤ _; omega) rfl ?_
      repeat (first | refine thenA_normal ?_ | refine awp_ret ?_ | refine r_done ?_ | (refine r_id ?_; first | refine r_ev tab_ok rfl rfl rfl rfl byE rfl ?_) | refine ret1 byO rfl rfl rfl ?_)
      exact Sub.of_eq (by rw [bs_nil_app])
end Go.Proofs.YtihakfihojickaaDoor

/- The reference's Decimal of any number. -/
namespace Go.Proofs.YtihakfihojickaaDoor
open Go Go.RowKit
set_option maxRecDepth 20000

structure DeT (n : Nat) where
  f : Nat
  u : Nat
  d : ByteArray
  hu : u < 10 ^ (f - 1)
  hn : u < 18446744073709551616
  h1 : 1 ≤ f
  he : f = 1 → d ≠ ⟨#[]⟩
  hd : d.size + f ≤ 21
  eq : dgtR f u d = decN n
def decI (n : Int) : ByteArray := if n < 0 then (⟨#[45]⟩ : ByteArray) ++ decN n.natAbs else decN n.natAbs
theorem wrap_u (n : Int) (h : n < 0 ∧ -9223372036854775808 ≤ n) : IntKind.wrap .u64 n = n + 18446744073709551616 := by
  simp [IntKind.wrap, IntKind.bits, IntKind.signed]; omega
theorem wrap_u2 (n : Int) (h : n < 0 ∧ -9223372036854775808 ≤ n) : IntKind.wrap .u64 (0 - (n + 18446744073709551616)) = -n := by
  simp [IntKind.wrap, IntKind.bits, IntKind.signed]; omega
set_option maxHeartbeats 2000000 in
theorem decNeg_ok (m : Nat) (hm : 1 ≤ m ∧ m ≤ 9223372036854775808) : PCalls Tryd.prog 9 [.val (.int .i64 (-(m : Int)))] (.val (.string ((⟨#[45]⟩ : ByteArray) ++ decN m))) := by
  refine p_start Tryd.func9 Tryd.ntmps9 rfl rfl rfl fun S w => ?_
  have h0 : -(m : Int) < 0 := by omega
  have hw1 := wrap_u (-(m : Int)) (by omega)
  have hw2 := wrap_u2 (-(m : Int)) (by omega)
  rw [Int.neg_neg] at hw2
  repeat (first | refine awp_seq ?_ | refine a_region ?_ | refine r_done ?_ | (refine r_id ?_; first | refine r_ev tab_ok rfl rfl rfl rfl byE rfl ?_))
  refine r_by (fun _ => astep_conv_int tab_ok rfl rfl rfl rfl) rfl rfl rfl rfl rfl ?_
  rw [hw1]
  repeat (first | refine awp_seq ?_ | refine thenA_normal ?_ | refine a_region ?_ | refine r_done ?_ | (refine r_id ?_; first | refine r_ev tab_ok rfl rfl rfl rfl byE rfl ?_))
  refine awp_cond_p rfl (fun _ => ?_) (fun h => absurd h0 h)
  repeat (first | refine awp_seq ?_ | refine a_region ?_ | (refine r_id ?_; first | refine r_ev tab_ok rfl rfl rfl rfl byE rfl ?_))
  refine r_by (fun _ => astep_neg rfl rfl) rfl rfl rfl rfl rfl ?_
  rw [hw2]
  repeat (first | refine awp_seq ?_ | refine thenA_normal ?_ | refine awp_block ?_ | refine a_region ?_ | refine r_done ?_ | (refine r_id ?_; first | refine r_ev tab_ok rfl rfl rfl rfl byE rfl ?_))
  refine a_loop (σ := DeT m) (fun _ => []) (fun x => [(3, .val (.int .u64 x.u)), (4, .val (.string ⟨#[45]⟩)), (5, .val (.string x.d))]) (fun x => x.f) ⟨21, m, ⟨#[]⟩, by omega, by omega, by omega, by omega, by decide, rfl⟩ (fits_of rfl ⟨Sub.refl _, Sub.refl _, Sub.refl _, trivial⟩) ?_
  rintro ⟨f, u, d, hu, hn, h1, he, hd, heq⟩
  dsimp only
  rw [← heq]
  obtain ⟨f, rfl⟩ : ∃ k, f = k + 1 := ⟨f - 1, by omega⟩
  rw [Nat.add_sub_cancel] at hu
  by_cases hp : 0 < u
  · have hf : 1 ≤ f := by
      rcases Nat.eq_zero_or_pos f with rfl | h
      · simp at hu; omega
      · exact h
    have hu2 : u / 10 < 10 ^ (f - 1) := by
      obtain ⟨g, rfl⟩ : ∃ k, f = k + 1 := ⟨f - 1, by omega⟩
      rw [Nat.add_sub_cancel]
      rw [Nat.pow_succ] at hu
      omega
    have e : dgtR (f + 1) u d = dgtR f (u / 10) (bytesStr [48 + (u : Int) % 10] ++ d) := by rw [dgtR, if_pos (.inl hp)]
    rw [e]
    repeat (first | refine awp_seq ?_ | refine thenA_normal ?_ | refine awp_block ?_ | refine a_region ?_ | refine awp_skip ?_ | refine r_done ?_ | (refine r_id ?_; first | refine r_ev tab_ok rfl rfl rfl rfl byE rfl ?_ | refine r_bstr tab_ok rfl rfl rfl rfl rfl rfl rfl rfl rfl rfl ?_ | refine r_built tab_ok rfl rfl rfl rfl rfl rfl rfl rfl rfl ?_) | refine awp_cond_t rfl ?_ | refine r_pick_t rfl rfl (congrArg (fun b => AV.val (.bool b)) (decide_eq_true (by omega))) rfl rfl rfl rfl ?_ | refine r_off rfl rfl (congrArg (fun b => AV.val (.bool b)) (decide_eq_true (by omega))) rfl rfl rfl ?_)
    refine r_ev tab_ok rfl rfl rfl rfl (by show 1 + d.size ≤ _; omega) rfl ?_
    repeat (first | refine thenA_normal ?_ | refine a_region ?_ | refine blockA_normal ?_ | refine r_done ?_ | (refine r_id ?_; first | refine r_ev tab_ok rfl rfl rfl rfl byE rfl ?_))
    exact ⟨⟨f, u / 10, bytesStr [48 + (u : Int) % 10] ++ d, hu2, by omega, hf, fun _ => bs_one_ne _ _, by rw [bs_one_size]; omega, by rw [← heq, e]⟩, by dsimp only; omega, fits_of rfl ⟨Sub.of_eq (by simp only [Int.natCast_ediv]; rfl), Sub.refl _, Sub.refl _, trivial⟩⟩
  · have hz : u = 0 := by omega
    subst hz
    repeat (first | refine awp_seq ?_ | refine thenA_normal ?_ | refine a_region ?_ | refine r_done ?_ | (refine r_id ?_; first | refine r_ev tab_ok rfl rfl rfl rfl byE rfl ?_ | refine r_pick_f rfl rfl rfl rfl rfl rfl rfl ?_ | refine r_ev_on tab_ok rfl rfl rfl rfl rfl rfl (by first | exact trivial | exact ⟨by omega, by omega⟩ | omega) rfl ?_))
    refine awp_cond_p rfl (fun h => ?_) (fun h => ?_)
    · have hf : 1 ≤ f := by
        rcases Nat.eq_zero_or_pos f with rfl | h2
        · exact absurd h (he rfl)
        · exact h2
      have e : dgtR (f + 1) 0 d = dgtR f 0 (bytesStr [48 + ((0 : Nat) : Int) % 10] ++ d) := by rw [dgtR, if_pos (.inr h)]
      rw [e]
      repeat (first | refine awp_seq ?_ | refine thenA_normal ?_ | refine awp_block ?_ | refine a_region ?_ | refine awp_skip ?_ | (refine r_id ?_; first | refine r_ev tab_ok rfl rfl rfl rfl byE rfl ?_ | refine r_bstr tab_ok rfl rfl rfl rfl rfl rfl rfl rfl rfl rfl ?_ | refine r_built tab_ok rfl rfl rfl rfl rfl rfl rfl rfl rfl ?_))
      refine r_ev tab_ok rfl rfl rfl rfl (by show 1 + d.size ≤ _; omega) rfl ?_
      repeat (first | refine thenA_normal ?_ | refine a_region ?_ | refine blockA_normal ?_ | refine r_done ?_ | (refine r_id ?_; first | refine r_ev tab_ok rfl rfl rfl rfl byE rfl ?_))
      exact ⟨⟨f, 0, bytesStr [48 + ((0 : Nat) : Int) % 10] ++ d, Nat.pow_pos (by decide), by omega, hf, fun _ => bs_one_ne _ _, by rw [bs_one_size]; omega, by rw [← heq, e]⟩, by dsimp only; omega, fits_of rfl ⟨Sub.refl _, Sub.refl _, Sub.refl _, trivial⟩⟩
    · have e : dgtR (f + 1) 0 d = d := by rw [dgtR, if_neg (by rintro (h2 | h2); exact absurd h2 (Nat.lt_irrefl _); exact h h2)]
      rw [e]
      repeat (first | refine awp_seq ?_ | refine a_region ?_ | refine awp_exit ?_ | (refine r_id ?_; first | refine r_ev tab_ok rfl rfl rfl rfl byE rfl ?_))
      refine r_ev tab_ok rfl rfl rfl rfl (by show 1 + d.size ≤ _; omega) rfl ?_
      repeat (first | refine thenA_normal ?_ | refine awp_ret ?_ | refine r_done ?_ | (refine r_id ?_; first | refine r_ev tab_ok rfl rfl rfl rfl byE rfl ?_) | refine ret1 byO rfl rfl rfl ?_)
      exact Sub.refl _
theorem dec_all (n : Int) (hn : -9223372036854775808 ≤ n ∧ n ≤ 9223372036854775807) : PCalls Tryd.prog 9 [.val (.int .i64 n)] (.val (.string (decI n))) := by
  rw [decI]
  by_cases h : n < 0
  · obtain ⟨m, rfl⟩ : ∃ m : Nat, n = -(m : Int) := ⟨n.natAbs, by omega⟩
    rw [if_pos h, Int.natAbs_neg, Int.natAbs_natCast]
    exact decNeg_ok m (by omega)
  · obtain ⟨m, rfl⟩ : ∃ m : Nat, n = (m : Int) := ⟨n.natAbs, by omega⟩
    rw [if_neg h, Int.natAbs_natCast]
    exact decimal_ok m (by omega)
end Go.Proofs.YtihakfihojickaaDoor

/- Whole numbers, plain. -/
namespace Go.Proofs.YtihakfihojickaaDoor
open Go Go.RowKit
set_option maxRecDepth 20000

def dgB (u : Nat) : UInt8 := UInt8.ofNat (48 + u % 10)
theorem dgB_nat (u : Nat) : (dgB u).toNat = 48 + u % 10 := by
  rw [dgB, UInt8.toNat_ofNat']
  omega
def dgLR : Nat → Nat → List UInt8 → List UInt8
  | 0, _, l => l
  | f + 1, u, l => if 0 < u ∨ l = [] then dgLR f (u / 10) (dgB u :: l) else l
theorem nil_bytes (l : List UInt8) : ((⟨l.toArray⟩ : ByteArray) = ⟨#[]⟩) = (l = []) := by
  apply propext
  constructor
  · intro h
    have := congrArg (fun x => x.data.toList) h
    simpa using this
  · rintro rfl; rfl
theorem dgtR_L : ∀ (f u : Nat) (l : List UInt8), dgtR f u ⟨l.toArray⟩ = ⟨(dgLR f u l).toArray⟩
  | 0, _, _ => rfl
  | f + 1, u, l => by
    have hb : bytesStr [48 + (u : Int) % 10] = ⟨[dgB u].toArray⟩ := by
      have : (48 + (u : Int) % 10).toNat = 48 + u % 10 := by omega
      rw [bytesStr, List.map_cons, this]; rfl
    rw [dgtR, dgLR]
    by_cases h : 0 < u ∨ l = []
    · rw [if_pos (by rw [nil_bytes]; exact h), if_pos h, hb, bytes_cat, dgtR_L f (u / 10) _]; rfl
    · rw [if_neg (by rw [nil_bytes]; exact h), if_neg h]
def digU (c : UInt8) : Bool := decide (48 ≤ c.toNat) && decide (c.toNat ≤ 57)
theorem digU_dgB (u : Nat) : digU (dgB u) = true := by
  rw [digU, dgB_nat, decide_eq_true (by omega), decide_eq_true (by omega)]; rfl
theorem dgLR_dig : ∀ (f u : Nat) (l : List UInt8), l.all digU = true → (dgLR f u l).all digU = true
  | 0, _, _, h => h
  | f + 1, u, l, h => by
    rw [dgLR]
    split
    · exact dgLR_dig f _ _ (by rw [List.all_cons, digU_dgB, h]; rfl)
    · exact h
theorem dgLR_len : ∀ (f u : Nat) (l : List UInt8), (dgLR f u l).length ≤ f + l.length
  | 0, _, _ => by rw [dgLR]; omega
  | f + 1, u, l => by
    rw [dgLR]
    split
    · have := dgLR_len f (u / 10) (dgB u :: l)
      rw [List.length_cons] at this; omega
    · omega
theorem dgLR_ne : ∀ (f u : Nat) (l : List UInt8), l ≠ [] → dgLR f u l ≠ []
  | 0, _, _, h => h
  | f + 1, u, l, h => by
    rw [dgLR]
    split
    · exact dgLR_ne f _ _ (by simp)
    · exact h
def valD : List UInt8 → Nat → Nat
  | [], n => n
  | b :: r, n => valD r (n * 10 + (b.toNat - 48))
theorem dgLR_val : ∀ (f u : Nat) (l : List UInt8), u < 10 ^ f → valD (dgLR f u l) 0 = valD l u
  | 0, u, l, h => by
    have : u = 0 := by omega
    subst this; rfl
  | f + 1, u, l, h => by
    rw [dgLR]
    split
    · rw [dgLR_val f (u / 10) _ (by rw [Nat.pow_succ] at h; omega), valD, dgB_nat]
      congr 1; omega
    · rename_i h2
      have : u = 0 := by omega
      subst this; rfl
def digits (m : Nat) : List UInt8 := dgLR 21 m []
theorem decN_L (m : Nat) : decN m = ⟨(digits m).toArray⟩ := dgtR_L 21 m []
theorem digits_all (m : Nat) : (digits m).all digU = true := dgLR_dig 21 m [] rfl
theorem digits_len (m : Nat) : (digits m).length ≤ 21 := dgLR_len 21 m []
theorem digits_ne (m : Nat) : digits m ≠ [] := by
  rw [digits, dgLR, if_pos (.inr rfl)]
  exact dgLR_ne 20 _ _ (by simp)
theorem digits_val (m : Nat) (h : m < 10 ^ 21) : valD (digits m) 0 = m := dgLR_val 21 m [] h
theorem intGo_val : ∀ (l : List UInt8) (n : Nat), l.all digU = true → intGo l (min (n : Int) 4294967296) = some (min (valD l n : Int) 4294967296)
  | [], _, _ => rfl
  | b :: r, n, h => by
    rw [List.all_cons, Bool.and_eq_true, digU, Bool.and_eq_true, decide_eq_true_eq, decide_eq_true_eq] at h
    have e : min (min (n : Int) 4294967296 * 10 + ((b.toNat : Int) - 48)) 4294967296 = min (((n * 10 + (b.toNat - 48) : Nat)) : Int) 4294967296 := by omega
    rw [intGo, if_neg (by omega), e, intGo_val r _ h.2, valD]
def sgB : Nat → List UInt8
  | 0 => []
  | 1 => [43]
  | _ => [45]
def heldF (k m : Nat) : Int := if k = 2 then -(min (m : Int) 2147483648) else min (m : Int) 2147483647
theorem int_held (k m : Nat) (hk : k < 3) (hm : m ≤ 9223372036854775808) : intF ⟨(sgB k ++ digits m).toArray⟩ = heldF k m := by
  have hd := digits_all m
  have hne := digits_ne m
  have hv := digits_val m (by omega)
  have hg := intGo_val (digits m) 0 hd
  rw [hv] at hg
  have hg' : intGo (digits m) 0 = some (min (m : Int) 4294967296) := hg
  show (if intK (sgB k ++ digits m) = (sgB k ++ digits m).length then 0 else match intGo ((sgB k ++ digits m).drop (intK (sgB k ++ digits m))) 0 with
    | none => 0
    | some n => if ((sgB k ++ digits m).getD 0 0).toNat = 45 then max (-n) (-2147483648) else min n 2147483647) = _
  generalize digits m = D at hd hne hg'
  cases D with
  | nil => exact absurd rfl hne
  | cons c q =>
    have hc : 48 ≤ c.toNat ∧ c.toNat ≤ 57 := by
      rw [List.all_cons, Bool.and_eq_true, digU, Bool.and_eq_true, decide_eq_true_eq, decide_eq_true_eq] at hd
      exact hd.1
    have : k = 0 ∨ k = 1 ∨ k = 2 := by omega
    rcases this with rfl | rfl | rfl
    · have hk0 : intK (sgB 0 ++ c :: q) = 0 := by
        rw [intK, if_neg]
        show ¬ (_ ∧ (c.toNat = 43 ∨ c.toNat = 45))
        omega
      rw [hk0, if_neg (by simp), show List.drop 0 (sgB 0 ++ c :: q) = c :: q from rfl, hg']
      show (if c.toNat = 45 then _ else _) = _
      rw [if_neg (by omega), heldF, if_neg (by decide)]
      omega
    · have hk0 : intK (sgB 1 ++ c :: q) = 1 := by rw [intK, if_pos ⟨by rw [List.length_append, List.length_cons]; omega, .inl rfl⟩]
      rw [hk0, if_neg (by simp [sgB]), show List.drop 1 (sgB 1 ++ c :: q) = c :: q from rfl, hg']
      show (if (43 : UInt8).toNat = 45 then _ else _) = _
      rw [if_neg (by decide), heldF, if_neg (by decide)]
      omega
    · have hk0 : intK (sgB 2 ++ c :: q) = 1 := by rw [intK, if_pos ⟨by rw [List.length_append, List.length_cons]; omega, .inr rfl⟩]
      rw [hk0, if_neg (by simp [sgB]), show List.drop 1 (sgB 2 ++ c :: q) = c :: q from rfl, hg']
      show (if (45 : UInt8).toNat = 45 then _ else _) = _
      rw [if_pos (by decide), heldF, if_pos rfl]
      omega
theorem digU_I {c : UInt8} (h : digU c = true) : digF (bI c) = true ∧ 48 ≤ bI c ∧ bI c ≤ 57 ∧ plB c = true ∧ c.toNat < 128 := by
  rw [digU, Bool.and_eq_true, decide_eq_true_eq, decide_eq_true_eq] at h
  refine ⟨?_, by unfold bI; omega, by unfold bI; omega, ?_, by omega⟩
  · rw [digF, decide_eq_true (show 48 ≤ bI c by unfold bI; omega), decide_eq_true (show bI c ≤ 57 by unfold bI; omega)]; rfl
  · simp only [plB, Bool.and_eq_true, decide_eq_true_eq, Bool.not_eq_true', decide_eq_false_iff_not]
    omega
end Go.Proofs.YtihakfihojickaaDoor

/- DefineRanges: what the text says (plain). -/
namespace Go.Proofs.YtihakfihojickaaDoor
open Go Go.RowKit
set_option maxRecDepth 20000

def wT : Tk := ⟨13, ⟨#[]⟩, 0, false, false, false⟩
def cmT : Tk := ⟨18, ⟨#[]⟩, 0, false, false, false⟩
def fvT : Tk := ⟨10, ⟨#[]⟩, 5, true, false, false⟩
inductive Bd where
  | num (n : Int)
  | inf
  | caps
def Bd.ok : Bd → Prop
  | .num n => -2147483648 ≤ n ∧ n ≤ 2147483647
  | _ => True
def Bd.L : Bd → List UInt8
  | .num n => sgB (if n < 0 then 2 else 0) ++ digits n.natAbs
  | .inf => [105, 110, 102, 105, 110, 105, 116, 101]
  | .caps => [73, 78, 70, 73, 78, 73, 84, 69]
def Bd.T : Bd → Tk
  | .num n => ⟨10, ⟨#[]⟩, n, true, decide (n < 0), false⟩
  | .inf => ⟨1, ⟨#[105, 110, 102, 105, 110, 105, 116, 101]⟩, 0, false, false, false⟩
  | .caps => ⟨1, ⟨#[73, 78, 70, 73, 78, 73, 84, 69]⟩, 0, false, false, false⟩
def Bd.v : Bd → Int → Int
  | .num n, _ => n
  | _, e => e
def nbT (k : Nat) (v : Int) : Tk := ⟨10, ⟨#[]⟩, v, true, decide (0 < k), false⟩
theorem numL_rest (L r : List Int) (c : Int) (k : Nat) (v : Int) (hc : c = 32 ∨ c = 44) (h2 : n2L L = c :: r) (hv : intF (runesBytes (nTL L)) = v) (hs : nSL L = decide (0 < k)) : numL L = (nbT k v, c :: r) := by
  rcases hc with rfl | rfl
  · have hP : nPL L = 32 :: r := by rw [nPL, h2]; kernel_rfl
    have hW : nWL L = true := by rw [nWL, h2]; kernel_rfl
    have hn : namesL (32 :: r) = false := by kernel_rfl
    have hg : ¬ gt (32 :: r) 0 = 37 := by rw [show gt (32 :: r) 0 = 32 from rfl]; decide
    rw [numL, hP, hn, if_neg (by decide), if_neg hg, nTkL, hW, hv, hs]; rfl
  · have hP : nPL L = 44 :: r := by rw [nPL, h2]; kernel_rfl
    have hW : nWL L = true := by rw [nWL, h2]; kernel_rfl
    have hn : namesL (44 :: r) = false := by kernel_rfl
    have hg : ¬ gt (44 :: r) 0 = 37 := by rw [show gt (44 :: r) 0 = 44 from rfl]; decide
    rw [numL, hP, hn, if_neg (by decide), if_neg hg, nTkL, hW, hv, hs]; rfl
theorem num_rest (k : Nat) (D : List UInt8) (v : Int) (c : Int) (r : List Int) (hk : k = 0 ∨ k = 2) (hc : c = 32 ∨ c = 44) (hd : D.all digU = true) (hne : D ≠ []) (hv : intF ⟨(sgB k ++ D).toArray⟩ = v) : toksL ((sgB k ++ D).map bI ++ c :: r) = nbT k v :: toksL (c :: r) := by
  have hall := List.all_eq_true.1 hd
  have hpe : digF (gt (c :: r) 0) = false := by
    rw [show gt (c :: r) 0 = c from rfl]
    rcases hc with rfl | rfl <;> decide
  have hrun : runesBytes ((sgB k ++ D).map bI) = ⟨(sgB k ++ D).toArray⟩ := runes_ascii _ (by
    rw [List.all_append, Bool.and_eq_true]
    refine ⟨?_, List.all_eq_true.2 fun c hc => decide_eq_true (digU_I (hall c hc)).2.2.2.2⟩
    rcases hk with rfl | rfl <;> decide)
  rw [List.map_append, List.append_assoc]
  have hdg := digL_run (D.map bI) (c :: r) (by rw [List.all_map]; exact List.all_eq_true.2 fun c hc => (digU_I (hall c hc)).1) hpe
  obtain ⟨d, q, rfl⟩ : ∃ c q, D = c :: q := by
    cases D with
    | nil => exact absurd rfl hne
    | cons c q => exact ⟨c, q, rfl⟩
  have hd1 := digU_I (hall d (by simp))
  generalize hE : c :: r = E at hdg hpe ⊢
  have key : ∀ (L : List Int) (sg : List Int), sg ++ (d :: q).map bI = (sgB k ++ (d :: q)).map bI → nSL L = decide (0 < k) → n1L L = (d :: q).map bI ++ E → nT1L L = sg → numBL L = true → (gt L 0 = 43 ∨ gt L 0 = 45 ∨ 48 ≤ gt L 0 ∧ gt L 0 ≤ 57) → toksL L = nbT k v :: toksL E := by
    intro L sg hsg hS h1 hT hB h0
    have hnum := numL_rest L r c k v hc (by rw [n2L, h1, hdg, hE]) (by rw [nTL, hT, h1, hdg, hsg, hrun, hv]) hS
    have hw : whiteF (gt L 0) = false := by
      rw [Bool.eq_false_iff]; simp only [ne_eq, whiteF, Bool.or_eq_true, decide_eq_true_eq]; omega
    have hh : hashL L = false := by rw [hashL, decide_eq_false (by omega), Bool.false_and]
    have htok : tokL L = (nbT k v, E) := by
      rw [tokL, if_neg (plI_no (by omega)), hw, if_neg (by decide), if_neg (by omega), hh, if_neg (by decide), if_pos hB, hnum, hE]
    rw [toksL_at (by omega) (.inl (by omega)), htok]
  rcases hk with rfl | rfl
  · have g0 : gt ((sgB 0).map bI ++ ((d :: q).map bI ++ E)) 0 = bI d := rfl
    have hS : nSL ((sgB 0).map bI ++ ((d :: q).map bI ++ E)) = false := by
      rw [nSL, g0, decide_eq_false (by omega), decide_eq_false (by omega)]; rfl
    refine key _ [] rfl hS (by rw [n1L, hS]; rfl) (by rw [nT1L, hS]; rfl) ?_ (by rw [g0]; omega)
    rw [numBL, numsL, g0, hd1.1, if_neg (by omega)]
    simp
  · refine key _ [45] rfl rfl rfl rfl ?_ (.inr (.inl rfl))
    rw [numBL, numsL]
    show (true && (if (45 : Int) = 43 ∨ (45 : Int) = 45 then digF (bI d) || _ else _)) = true
    rw [if_pos (.inr rfl), hd1.1]; rfl
theorem bd_toks (b : Bd) (h : b.ok) (c : Int) (r : List Int) (hc : c = 32 ∨ c = 44) : toksL (b.L.map bI ++ c :: r) = b.T :: toksL (c :: r) := by
  have h1 : nameF (gt (c :: r) 0) = false := by rw [show gt (c :: r) 0 = c from rfl]; rcases hc with rfl | rfl <;> decide
  have h2 : gt (c :: r) 0 ≠ 92 := by rw [show gt (c :: r) 0 = c from rfl]; rcases hc with rfl | rfl <;> decide
  have h3 : gt (c :: r) 0 ≠ 40 := by rw [show gt (c :: r) 0 = c from rfl]; rcases hc with rfl | rfl <;> decide
  cases b with
  | num n =>
    obtain ⟨ha, hb⟩ := h
    by_cases hn : n < 0
    · have hL : Bd.L (.num n) = sgB 2 ++ digits n.natAbs := by rw [Bd.L, if_pos hn]
      have hT : Bd.T (.num n) = nbT 2 n := by rw [Bd.T, decide_eq_true hn]; rfl
      rw [hL, hT]
      exact num_rest 2 _ n c r (.inr rfl) hc (digits_all _) (digits_ne _) (by rw [int_held 2 _ (by decide) (by omega), heldF, if_pos rfl]; omega)
    · have hL : Bd.L (.num n) = sgB 0 ++ digits n.natAbs := by rw [Bd.L, if_neg hn]
      have hT : Bd.T (.num n) = nbT 0 n := by rw [Bd.T, decide_eq_false hn]; rfl
      rw [hL, hT]
      exact num_rest 0 _ n c r (.inl rfl) hc (digits_all _) (digits_ne _) (by rw [int_held 0 _ (by decide) (by omega), heldF, if_neg (by decide)]; omega)
  | inf => exact (toksL_word _ _ (c :: r) (by decide) (by decide) h1 h2 h3).trans (congrArg (· :: toksL (c :: r)) (by kernel_rfl))
  | caps => exact (toksL_word _ _ (c :: r) (by decide) (by decide) h1 h2 h3).trans (congrArg (· :: toksL (c :: r)) (by kernel_rfl))
theorem bd_pl (b : Bd) : b.L.all plB = true := by
  cases b with
  | num n =>
    rw [Bd.L, List.all_append, Bool.and_eq_true]
    refine ⟨?_, List.all_eq_true.2 fun c hc => (digU_I (List.all_eq_true.1 (digits_all _) c hc)).2.2.2.1⟩
    split <;> decide
  | inf => decide
  | caps => decide
theorem bd_len (b : Bd) : b.L.length ≤ 22 := by
  cases b with
  | num n =>
    rw [Bd.L, List.length_append]
    have := digits_len n.natAbs
    have : (sgB (if n < 0 then 2 else 0)).length ≤ 1 := by split <;> decide
    omega
  | inf => decide
  | caps => decide
theorem bd_white (b : Bd) (r : List Int) : whiteF (gt (b.L.map bI ++ r) 0) = false := by
  cases b with
  | num n =>
    by_cases hn : n < 0
    · rw [show Bd.L (.num n) = sgB 2 ++ digits n.natAbs by rw [Bd.L, if_pos hn]]
      exact show whiteF 45 = false by decide
    · rw [show Bd.L (.num n) = sgB 0 ++ digits n.natAbs by rw [Bd.L, if_neg hn]]
      obtain ⟨d, q, hD⟩ : ∃ c q, digits n.natAbs = c :: q := by
        have := digits_ne n.natAbs
        cases h : digits n.natAbs with
        | nil => exact absurd h this
        | cons c q => exact ⟨c, q, rfl⟩
      have hd1 := digU_I (List.all_eq_true.1 (digits_all n.natAbs) d (by rw [hD]; simp))
      rw [hD]
      show whiteF (bI d) = false
      rw [Bool.eq_false_iff]; simp only [ne_eq, whiteF, Bool.or_eq_true, decide_eq_true_eq]; omega
  | inf => kernel_rfl
  | caps => kernel_rfl
theorem comma_toks (r : List Int) : toksL (44 :: r) = cmT :: toksL r := by
  have h : toksL (([44] : List Int) ++ r) = [cmT] ++ toksL r := toks_lit 10 (by kernel_rfl) (by decide)
  exact h
abbrev Bp := Bd × Bd
def prL (p : Bp) : List UInt8 := p.1.L ++ [32] ++ p.2.L
def tailL (r : List Bp) : List UInt8 := (r.map fun p => 44 :: prL p).flatten
def tailT (r : List Bp) : List Tk := (r.map fun p => [cmT, p.1.T, wT, p.2.T]).flatten
def prOk (p : Bp) : Prop := p.1.ok ∧ p.2.ok
theorem tl_head (q : List Bp) (c : Int) (R : List Int) (hc : c = 32 ∨ c = 44) : ∃ c' R', (tailL q).map bI ++ c :: R = c' :: R' ∧ (c' = 32 ∨ c' = 44) := by
  cases q with
  | nil => exact ⟨c, R, rfl, hc⟩
  | cons p r => exact ⟨44, (prL p ++ tailL r).map bI ++ c :: R, rfl, .inr rfl⟩
theorem pr_toks (p : Bp) (h : prOk p) (c : Int) (R : List Int) (hc : c = 32 ∨ c = 44) : toksL ((prL p).map bI ++ c :: R) = p.1.T :: wT :: p.2.T :: toksL (c :: R) := by
  have e : (prL p).map bI ++ c :: R = p.1.L.map bI ++ 32 :: (p.2.L.map bI ++ c :: R) := by
    rw [prL, List.map_append, List.map_append, List.append_assoc, List.append_assoc]; rfl
  have hw := toksL_white 32 [] (p.2.L.map bI ++ c :: R) rfl (bd_white _ _)
  rw [e, bd_toks _ h.1 32 _ (.inl rfl), show (32 :: (p.2.L.map bI ++ c :: R) : List Int) = 32 :: [] ++ (p.2.L.map bI ++ c :: R) from rfl, hw, bd_toks _ h.2 c R hc]
  rfl
theorem tail_toks : ∀ (q : List Bp) (_ : ∀ p ∈ q, prOk p) (c : Int) (R : List Int) (_ : c = 32 ∨ c = 44), toksL ((tailL q).map bI ++ c :: R) = tailT q ++ toksL (c :: R)
  | [], _, _, _, _ => rfl
  | p :: q, h, c, R, hc => by
    obtain ⟨c', R', he, hc'⟩ := tl_head q c R hc
    have e1 : (tailL (p :: q)).map bI ++ c :: R = 44 :: ((prL p).map bI ++ c' :: R') := by
      rw [← he, show tailL (p :: q) = 44 :: (prL p ++ tailL q) from rfl, List.map_cons, List.map_append, List.cons_append, List.append_assoc]; rfl
    rw [e1, comma_toks, pr_toks p (h p (by simp)) c' R' hc', ← he, tail_toks q (fun x hx => h x (by simp [hx])) c R hc]
    rfl
def rhL : List UInt8 := [64, 99, 111, 117, 110, 116, 101, 114, 45, 115, 116, 121, 108, 101, 32, 107, 32, 123, 32, 115, 121, 109, 98, 111, 108, 115, 58, 32, 97, 59, 32, 114, 97, 110, 103, 101, 58]
def rhK : List Tk := [(⟨13, ⟨#[]⟩, 0, false, false, false⟩ : Tk), (⟨1, ⟨#[115, 121, 109, 98, 111, 108, 115]⟩, 0, false, false, false⟩ : Tk), (⟨16, ⟨#[]⟩, 0, false, false, false⟩ : Tk), (⟨13, ⟨#[]⟩, 0, false, false, false⟩ : Tk), (⟨1, ⟨#[97]⟩, 0, false, false, false⟩ : Tk), (⟨17, ⟨#[]⟩, 0, false, false, false⟩ : Tk), (⟨13, ⟨#[]⟩, 0, false, false, false⟩ : Tk), (⟨1, ⟨#[114, 97, 110, 103, 101]⟩, 0, false, false, false⟩ : Tk), (⟨16, ⟨#[]⟩, 0, false, false, false⟩ : Tk)]
def reL : Bool → List UInt8
  | true => [44, 32, 53, 32, 125]
  | false => [32, 125]
def reT : Bool → List Tk
  | true => [cmT, wT, fvT]
  | false => []
theorem rh_toks (rest : List Int) : toksL (rhL.map bI ++ rest) = hdT1 ++ rhK ++ toksL rest := by
  have h : toksL (rhL.map bI ++ rest) = (hdT1 ++ rhK) ++ toksL rest := toks_lit 80 (by kernel_rfl) (by decide)
  exact h
theorem re_toks (b : Bool) : toksL ((reL b).map bI) = reT b ++ [wT, clT] := by cases b <;> kernel_rfl
theorem re_head (b : Bool) : ∃ c R, (reL b).map bI = c :: R ∧ (c = 32 ∨ c = 44) := by
  cases b
  · exact ⟨32, _, rfl, .inl rfl⟩
  · exact ⟨44, _, rfl, .inr rfl⟩
def bodyL : List Bp → List UInt8
  | [] => []
  | p :: q => prL p ++ tailL q
def rxL (ps : List Bp) (bad : Bool) : List UInt8 := rhL ++ [32] ++ bodyL ps ++ reL bad
def xT (p : Bp) (q : List Bp) (bad : Bool) : List Tk := p.1.T :: wT :: p.2.T :: (tailT q ++ reT bad)
theorem re_pl (b : Bool) : (reL b).all plB = true := by cases b <;> decide
theorem pr_pl (p : Bp) : (prL p).all plB = true := by rw [prL, List.all_append, List.all_append, bd_pl, bd_pl]; decide
theorem tail_pl : ∀ q : List Bp, (tailL q).all plB = true
  | [] => rfl
  | p :: q => by
    rw [show tailL (p :: q) = 44 :: (prL p ++ tailL q) from rfl, List.all_cons, List.all_append, pr_pl, tail_pl q]; decide
theorem rx_toks (p : Bp) (q : List Bp) (bad : Bool) (h : ∀ x ∈ p :: q, prOk x) : toks ⟨(rxL (p :: q) bad).toArray⟩ = hdT1 ++ (rhK ++ wT :: (xT p q bad ++ [wT])) ++ [clT] := by
  have hp : (rxL (p :: q) bad).all plB = true := by
    rw [rxL, bodyL, List.all_append, List.all_append, List.all_append, List.all_append, pr_pl, tail_pl, re_pl]
    kernel_rfl
  have h1 : toks ⟨(rxL (p :: q) bad).toArray⟩ = toksF (readL ⟨(rxL (p :: q) bad).toArray⟩) := rfl
  obtain ⟨c, R, he, hc⟩ := re_head bad
  obtain ⟨c', R', he', hc'⟩ := tl_head q c R hc
  have e1 : (rxL (p :: q) bad).map bI = rhL.map bI ++ (32 :: [] ++ ((prL p).map bI ++ c' :: R')) := by
    rw [← he', ← he, rxL, bodyL, List.map_append, List.map_append, List.map_append, List.map_append, List.append_assoc, List.append_assoc, List.append_assoc]; rfl
  have hw : whiteF (gt ((prL p).map bI ++ c' :: R') 0) = false := by
    rw [prL, List.append_assoc, List.map_append, List.append_assoc]; exact bd_white _ _
  rw [h1, ← toks_L, read_pl _ hp, e1, rh_toks, toksL_white 32 [] _ rfl hw, pr_toks p (h p (by simp)) c' R' hc', ← he', tail_toks q (fun x hx => h x (by simp [hx])) c R hc, ← he, re_toks]
  simp only [List.append_assoc, List.cons_append, List.nil_append, xT]
  rfl
/-- What a token within the range's value is. -/
def okX (t : Tk) : Bool := goodT t && !semB (lf t) && !notB t
theorem bd_okX (b : Bd) : okX b.T = true := by
  cases b with
  | num n => kernel_rfl
  | inf => kernel_rfl
  | caps => kernel_rfl
theorem tail_okX : ∀ q : List Bp, (tailT q).all okX = true
  | [] => rfl
  | p :: q => by
    rw [show tailT (p :: q) = cmT :: p.1.T :: wT :: p.2.T :: tailT q from rfl, List.all_cons, List.all_cons, List.all_cons, List.all_cons, bd_okX, bd_okX, tail_okX q]; kernel_rfl
theorem x_okX (p : Bp) (q : List Bp) (bad : Bool) : (xT p q bad).all okX = true := by
  rw [xT, List.all_cons, List.all_cons, List.all_cons, List.all_append, bd_okX, bd_okX, tail_okX q]
  cases bad <;> kernel_rfl
def rvK (p : Bp) (q : List Bp) (bad : Bool) : List Tk := rhK ++ wT :: (xT p q bad ++ [wT])
theorem rv_good (p : Bp) (q : List Bp) (bad : Bool) : (rvK p q bad).all goodT = true := by
  have h : (xT p q bad).all goodT = true := List.all_eq_true.2 fun t ht => by
    have := List.all_eq_true.1 (x_okX p q bad) t ht
    simp only [okX, Bool.and_eq_true] at this
    exact this.1.1
  rw [rvK, List.all_append, List.all_cons, List.all_append, h]
  show (_ : Bool) = true
  kernel_rfl
def rvN (p : Bp) (q : List Bp) (bad : Bool) : List Nd := [lf ⟨3, ⟨#[99, 111, 117, 110, 116, 101, 114, 45, 115, 116, 121, 108, 101]⟩, 0, false, false, false⟩, lf ⟨13, ⟨#[]⟩, 0, false, false, false⟩, lf ⟨1, ⟨#[107]⟩, 0, false, false, false⟩, lf ⟨13, ⟨#[]⟩, 0, false, false, false⟩, .mk opT ((rvK p q bad).map lf)]
theorem rx_nds (p : Bp) (q : List Bp) (bad : Bool) (h : ∀ x ∈ p :: q, prOk x) : ndsF ⟨(rxL (p :: q) bad).toArray⟩ = rvN p q bad := by
  have hg : (rvK p q bad).all (leafB (clzF opT)) = true := List.all_eq_true.2 fun t ht => by
    have := List.all_eq_true.1 (rv_good p q bad) t ht
    rw [goodT, Bool.and_eq_true] at this
    exact this.1
  have h1 : ndsF ⟨(rxL (p :: q) bad).toArray⟩ = nodesT (toks ⟨(rxL (p :: q) bad).toArray⟩) := (nodes_T _).symm
  rw [h1, rx_toks p q bad h, ← rvK, hdT1]
  simp only [List.cons_append, List.nil_append]
  rw [nodesT_leaf _ _ (by kernel_rfl), nodesT_leaf _ _ (by kernel_rfl), nodesT_leaf _ _ (by kernel_rfl), nodesT_leaf _ _ (by kernel_rfl)]
  have h3 := nodesT_open opT (rvK p q bad) clT [] (by decide) hg (by kernel_rfl)
  rw [nodesT_nil] at h3
  exact congrArg (fun q => lf _ :: lf _ :: lf _ :: lf _ :: q) h3
theorem valF_no {l : List Nd} (h : ∀ n ∈ l, exclB n.tok = false) : valF l = (trimF l, false) := by
  have hx : ∀ i, exclB (ndAt (trimF l) i).tok = false := fun i => by
    rcases Nat.lt_or_ge i (trimF l).length with hi | hi
    · rw [← ndAt_get hi]; exact h _ (trimF_mem _ (List.getElem_mem hi))
    · rw [ndAt, List.getD_eq_getElem?_getD, List.getElem?_eq_none hi]; rfl
  unfold valF
  split
  · rfl
  · rw [hx, Bool.false_and, if_neg Bool.false_ne_true]
theorem bd_nw (b : Bd) : whN (lf b.T) = false := by cases b <;> kernel_rfl
theorem bd_cm (b : Bd) : cmB (lf b.T) = false := by cases b <;> kernel_rfl
theorem x_last (p : Bp) (q : List Bp) (bad : Bool) : ∃ m a, (xT p q bad).map lf = m ++ [a] ∧ whN a = false := by
  have ht : ∀ q : List Bp, ∀ pre : List Tk, ∀ b : Bd, ∃ m a, (pre ++ b.T :: tailT q).map lf = m ++ [a] ∧ whN a = false := by
    intro q
    induction q with
    | nil => exact fun pre b => ⟨pre.map lf, lf b.T, by rw [List.map_append]; rfl, bd_nw b⟩
    | cons x q ih =>
      intro pre b
      obtain ⟨m, a, h1, h2⟩ := ih (pre ++ [b.T, cmT, x.1.T, wT]) x.2
      exact ⟨m, a, by rw [← h1, List.append_assoc]; rfl, h2⟩
  cases bad
  · obtain ⟨m, a, h1, h2⟩ := ht q [p.1.T, wT] p.2
    exact ⟨m, a, by rw [← h1, xT, show reT false = [] from rfl, List.append_nil]; rfl, h2⟩
  · exact ⟨((p.1.T :: wT :: p.2.T :: tailT q) ++ [cmT, wT]).map lf, lf fvT, by
      rw [show ∀ a : Nd, [a] = ([a] : List Nd) from fun _ => rfl, show [lf fvT] = [fvT].map lf from rfl, ← List.map_append, List.append_assoc]; rfl, by kernel_rfl⟩
theorem x_trim (p : Bp) (q : List Bp) (bad : Bool) : trimF (lf wT :: ((xT p q bad).map lf ++ [lf wT])) = (xT p q bad).map lf := by
  obtain ⟨m, a, h1, h2⟩ := x_last p q bad
  have h3 : (lf wT :: ((xT p q bad).map lf ++ [lf wT])).dropWhile whN = (xT p q bad).map lf ++ [lf wT] := by
    rw [List.dropWhile_cons, if_pos (by kernel_rfl), show (xT p q bad).map lf ++ [lf wT] = lf p.1.T :: ((wT :: p.2.T :: (tailT q ++ reT bad)).map lf ++ [lf wT]) from rfl, List.dropWhile_cons, bd_nw, if_neg Bool.false_ne_true]
  rw [trimF, h3, trimB_go (by kernel_rfl), h1, trimB_no h2]
def rgN : ByteArray := ⟨#[114, 97, 110, 103, 101]⟩
def rv1D : List Dc := [⟨⟨#[115, 121, 109, 98, 111, 108, 115]⟩, [lf ⟨1, ⟨#[97]⟩, 0, false, false, false⟩], false⟩]
theorem rng_one (v : List Nd) : oneQ (lf ⟨1, ⟨#[114, 97, 110, 103, 101]⟩, 0, false, false, false⟩) (lf ⟨16, ⟨#[]⟩, 0, false, false, false⟩ :: v) = (if mayF (valF v).1 then [⟨rgN, (valF v).1, (valF v).2⟩] else []) := by kernel_rfl
theorem rv_dec (p : Bp) (q : List Bp) (bad : Bool) : decA ((rvK p q bad).map lf) 0 = rv1D ++ [⟨rgN, (xT p q bad).map lf, false⟩] := by
  have hX := x_okX p q bad
  have hno : ∀ n ∈ lf wT :: ((xT p q bad).map lf ++ [lf wT]), exclB n.tok = false := by
    intro n hn
    rw [List.mem_cons, List.mem_append, List.mem_singleton, List.mem_map] at hn
    rcases hn with rfl | ⟨t, ht, rfl⟩ | rfl
    · kernel_rfl
    · have h2 := List.all_eq_true.1 hX t ht
      simp only [okX, Bool.and_eq_true, Bool.not_eq_true', notB, Bool.or_eq_false_iff] at h2
      exact h2.2.2
    · kernel_rfl
  have hns : (lf ⟨16, ⟨#[]⟩, 0, false, false, false⟩ :: (lf wT :: ((xT p q bad).map lf ++ [lf wT]))).all nsB = true := by
    rw [List.all_cons, List.all_cons, List.all_append, List.all_map]
    have : (xT p q bad).all (nsB ∘ lf) = true := List.all_eq_true.2 fun t ht => by
      have h2 := List.all_eq_true.1 hX t ht
      simp only [okX, Bool.and_eq_true] at h2
      exact h2.1.2
    rw [this]
    show (_ : Bool) = true
    kernel_rfl
  have hmay : mayF ((xT p q bad).map lf) = true := by
    rw [mayF, List.all_map]
    have : (xT p q bad).all ((fun n => !notB n.tok) ∘ lf) = true := List.all_eq_true.2 fun t ht => by
      have h2 := List.all_eq_true.1 hX t ht
      simp only [okX, Bool.and_eq_true] at h2
      exact h2.2
    rw [this, decide_eq_true (by rw [List.length_map, xT]; simp)]; rfl
  have h1 : decLs ((rvK p q bad).map lf) = decLs ([lf ⟨1, ⟨#[115, 121, 109, 98, 111, 108, 115]⟩, 0, false, false, false⟩, lf ⟨16, ⟨#[]⟩, 0, false, false, false⟩, lf ⟨13, ⟨#[]⟩, 0, false, false, false⟩, lf ⟨1, ⟨#[97]⟩, 0, false, false, false⟩, lf ⟨17, ⟨#[]⟩, 0, false, false, false⟩] ++ (lf wT :: lf ⟨1, ⟨#[114, 97, 110, 103, 101]⟩, 0, false, false, false⟩ :: (lf ⟨16, ⟨#[]⟩, 0, false, false, false⟩ :: (lf wT :: ((xT p q bad).map lf ++ [lf wT]))))) := by
    have : (rvK p q bad).map lf = lf wT :: ([lf ⟨1, ⟨#[115, 121, 109, 98, 111, 108, 115]⟩, 0, false, false, false⟩, lf ⟨16, ⟨#[]⟩, 0, false, false, false⟩, lf ⟨13, ⟨#[]⟩, 0, false, false, false⟩, lf ⟨1, ⟨#[97]⟩, 0, false, false, false⟩, lf ⟨17, ⟨#[]⟩, 0, false, false, false⟩] ++ (lf wT :: lf ⟨1, ⟨#[114, 97, 110, 103, 101]⟩, 0, false, false, false⟩ :: (lf ⟨16, ⟨#[]⟩, 0, false, false, false⟩ :: (lf wT :: ((xT p q bad).map lf ++ [lf wT]))))) := by
      rw [rvK, List.map_append, List.map_cons, List.map_append]; rfl
    rw [this]
    exact decLs_skip (lf wT) _ (by kernel_rfl)
  have h2 := decLs_seg (lf ⟨1, ⟨#[115, 121, 109, 98, 111, 108, 115]⟩, 0, false, false, false⟩) [lf ⟨16, ⟨#[]⟩, 0, false, false, false⟩, lf ⟨13, ⟨#[]⟩, 0, false, false, false⟩, lf ⟨1, ⟨#[97]⟩, 0, false, false, false⟩] (lf wT :: lf ⟨1, ⟨#[114, 97, 110, 103, 101]⟩, 0, false, false, false⟩ :: (lf ⟨16, ⟨#[]⟩, 0, false, false, false⟩ :: (lf wT :: ((xT p q bad).map lf ++ [lf wT])))) (lf ⟨17, ⟨#[]⟩, 0, false, false, false⟩) rfl (by decide) rfl rfl
  have h3 : decLs (lf wT :: lf ⟨1, ⟨#[114, 97, 110, 103, 101]⟩, 0, false, false, false⟩ :: (lf ⟨16, ⟨#[]⟩, 0, false, false, false⟩ :: (lf wT :: ((xT p q bad).map lf ++ [lf wT])))) = decLs (lf ⟨1, ⟨#[114, 97, 110, 103, 101]⟩, 0, false, false, false⟩ :: (lf ⟨16, ⟨#[]⟩, 0, false, false, false⟩ :: (lf wT :: ((xT p q bad).map lf ++ [lf wT])))) := decLs_skip (lf wT) _ (by kernel_rfl)
  have h4 := decLs_last (lf ⟨1, ⟨#[114, 97, 110, 103, 101]⟩, 0, false, false, false⟩) (lf ⟨16, ⟨#[]⟩, 0, false, false, false⟩ :: (lf wT :: ((xT p q bad).map lf ++ [lf wT]))) rfl (by decide) hns
  have h5 : oneQ (lf ⟨1, ⟨#[115, 121, 109, 98, 111, 108, 115]⟩, 0, false, false, false⟩) [lf ⟨16, ⟨#[]⟩, 0, false, false, false⟩, lf ⟨13, ⟨#[]⟩, 0, false, false, false⟩, lf ⟨1, ⟨#[97]⟩, 0, false, false, false⟩] = rv1D := by kernel_rfl
  have h6 : decLs ([lf ⟨1, ⟨#[115, 121, 109, 98, 111, 108, 115]⟩, 0, false, false, false⟩, lf ⟨16, ⟨#[]⟩, 0, false, false, false⟩, lf ⟨13, ⟨#[]⟩, 0, false, false, false⟩, lf ⟨1, ⟨#[97]⟩, 0, false, false, false⟩, lf ⟨17, ⟨#[]⟩, 0, false, false, false⟩] ++ (lf wT :: lf ⟨1, ⟨#[114, 97, 110, 103, 101]⟩, 0, false, false, false⟩ :: (lf ⟨16, ⟨#[]⟩, 0, false, false, false⟩ :: (lf wT :: ((xT p q bad).map lf ++ [lf wT]))))) = rv1D ++ [⟨rgN, (xT p q bad).map lf, false⟩] := by
    refine h2.trans ?_
    rw [h5, h3, h4, rng_one, valF_no hno, x_trim, if_pos hmay]
  rw [decA_Ls, h1, h6]
def rlG (p : Bp) (q : List Bp) (bad : Bool) : Rl := ⟨csS, [lf ⟨1, ⟨#[107]⟩, 0, false, false, false⟩], true, rv1D ++ [⟨rgN, (xT p q bad).map lf, false⟩]⟩
theorem rx_sht (p : Bp) (q : List Bp) (bad : Bool) (h : ∀ x ∈ p :: q, prOk x) : shF ⟨(rxL (p :: q) bad).toArray⟩ = [rlG p q bad] := by
  rw [shF, rx_nds p q bad h, rvN, sht_of, rv_dec]
  rfl
/- What the range is. -/
def tailY (r : List Bp) : List Tk := (r.map fun p => [cmT, p.1.T, p.2.T]).flatten
def reY : Bool → List Tk
  | true => [cmT, fvT]
  | false => []
theorem tig_tail : ∀ q : List Bp, tigF ((tailT q).map lf) = (tailY q).map lf
  | [] => rfl
  | x :: q => by
    have ih := tig_tail q
    rw [tigF] at ih ⊢
    rw [show (tailT (x :: q)).map lf = lf cmT :: lf x.1.T :: lf wT :: lf x.2.T :: (tailT q).map lf from rfl, List.filter_cons, List.filter_cons, List.filter_cons, List.filter_cons, bd_nw, bd_nw, ih]
    rfl
theorem tig_x (p : Bp) (q : List Bp) (bad : Bool) : tigF ((xT p q bad).map lf) = lf p.1.T :: lf p.2.T :: ((tailY q).map lf ++ (reY bad).map lf) := by
  have ih := tig_tail q
  rw [tigF] at ih ⊢
  rw [show (xT p q bad).map lf = lf p.1.T :: lf wT :: lf p.2.T :: ((tailT q ++ reT bad).map lf) from rfl, List.map_append, List.filter_cons, List.filter_cons, List.filter_cons, List.filter_append, bd_nw, bd_nw, ih]
  cases bad <;> rfl
def prN (p : Bp) : List Nd := [lf p.1.T, lf p.2.T]
def reN : Bool → List (List Nd)
  | true => [[lf fvT]]
  | false => []
theorem split_x (bad : Bool) : ∀ (q : List Bp) (pre : List (List Nd)) (cur : List Nd), splitG ((tailY q).map lf ++ (reY bad).map lf) pre cur = pre ++ [cur] ++ q.map prN ++ reN bad
  | [], pre, cur => by
    cases bad
    · show pre ++ [cur] = pre ++ [cur] ++ [] ++ []
      rw [List.append_nil, List.append_nil]
    · show pre ++ [cur] ++ [[] ++ [lf fvT]] = pre ++ [cur] ++ [] ++ [[lf fvT]]
      rw [List.append_nil]; rfl
  | x :: q, pre, cur => by
    rw [show (tailY (x :: q)).map lf ++ (reY bad).map lf = lf cmT :: lf x.1.T :: lf x.2.T :: ((tailY q).map lf ++ (reY bad).map lf) from rfl, splitG, if_pos (by kernel_rfl), splitG, bd_cm, if_neg Bool.false_ne_true, splitG, bd_cm, if_neg Bool.false_ne_true, split_x bad q]
    show pre ++ [cur] ++ [prN x] ++ q.map prN ++ reN bad = pre ++ [cur] ++ (prN x :: q.map prN) ++ reN bad
    simp only [List.append_assoc, List.cons_append, List.nil_append]
def vP (p : Bp) : Int × Int := (p.1.v (-2147483648), p.2.v 2147483647)
def okP (p : Bp) : Bool := decide ((vP p).1 ≤ (vP p).2)
theorem bnd_at (b : Bd) (e : Int) : bndF (lf b.T) e = (b.v e, true) := by
  cases b with
  | num n => kernel_rfl
  | inf => kernel_rfl
  | caps => kernel_rfl
theorem rg_x (bad : Bool) : ∀ (ps : List Bp) (acc : List (Int × Int)), rgF1 (ps.map prN ++ reN bad) acc = if (!bad && ps.all okP) = true then some (acc ++ ps.map vP) else none
  | [], acc => by
    cases bad
    · show some acc = some (acc ++ [])
      rw [List.append_nil]
    · rfl
  | p :: q, acc => by
    have h1 : rgF1 ((p :: q).map prN ++ reN bad) acc = (if ((bndF (lf p.1.T) (-2147483648)).2 && (bndF (lf p.2.T) 2147483647).2 && decide ((bndF (lf p.1.T) (-2147483648)).1 ≤ (bndF (lf p.2.T) 2147483647).1)) = true then rgF1 (q.map prN ++ reN bad) (acc ++ [((bndF (lf p.1.T) (-2147483648)).1, (bndF (lf p.2.T) 2147483647).1)]) else none) := rfl
    rw [h1, bnd_at, bnd_at, rg_x bad q]
    have h2 : (true && true && decide (p.1.v (-2147483648) ≤ p.2.v 2147483647)) = okP p := rfl
    have h3 : (!bad && (p :: q).all okP) = (!bad && (okP p && q.all okP)) := rfl
    simp only [h2, h3]
    cases okP p with
    | true =>
      rw [if_pos rfl, Bool.true_and, List.append_assoc]
      rfl
    | false => rw [if_neg Bool.false_ne_true, Bool.false_and, Bool.and_false, if_neg Bool.false_ne_true]
def rgB0 : Sd := { sd0 ⟨#[107]⟩ with syms := [⟨#[97]⟩], symbolic := true }
def rgE0 : Sd := { rgB0 with symbols := [⟨#[97]⟩] }
def gdP (ps : List Bp) (bad : Bool) : Bool := !bad && ps.all okP && !ps.isEmpty
def rgV1 (ps : List Bp) (bad : Bool) : Sd := if gdP ps bad then { rgB0 with auto := false, range := ps.map vP, said := 8 } else rgB0
def rgVE (ps : List Bp) (bad : Bool) : Sd := if gdP ps bad then { rgE0 with auto := false, range := ps.map vP, said := 8 } else rgE0
theorem say_rng (S : Sd) (a b : Nd) (r : List Nd) : sayD1 S rgN (a :: b :: r) = rngF S (a :: b :: r) := by kernel_rfl
theorem rv_say (p : Bp) (q : List Bp) (bad : Bool) : sayAll (sd0 ⟨#[107]⟩) (rlG p q bad).decls = rgV1 (p :: q) bad := by
  have h1 : sayAll (sd0 ⟨#[107]⟩) (rlG p q bad).decls = (sayD (sayAll (sd0 ⟨#[107]⟩) rv1D) ⟨rgN, (xT p q bad).map lf, false⟩).1 := rfl
  have h2 : sayAll (sd0 ⟨#[107]⟩) rv1D = rgB0 := by kernel_rfl
  have h3 : splitF (lf p.1.T :: lf p.2.T :: ((tailY q).map lf ++ (reY bad).map lf)) = (p :: q).map prN ++ reN bad := by
    rw [splitF, splitG, bd_cm, if_neg Bool.false_ne_true, splitG, bd_cm, if_neg Bool.false_ne_true, split_x bad q]
    rfl
  have h4 : isAut (lf p.1.T :: lf p.2.T :: ((tailY q).map lf ++ (reY bad).map lf)) = false := rfl
  rw [h1, h2, sayD]
  simp only
  rw [tig_x, say_rng, rngF, h4, if_neg Bool.false_ne_true, h3, rg_x bad (p :: q) [], rgV1, gdP]
  cases (!bad && (p :: q).all okP) <;> rfl
theorem may_rg (L : List (Int × Int)) : mayD { rgE0 with auto := false, range := L, said := 8 } = !L.any badR := by kernel_rfl
theorem v_ok (b : Bd) (h : b.ok) (e : Int) (he : -2147483648 ≤ e ∧ e ≤ 2147483647) : -2147483648 ≤ b.v e ∧ b.v e ≤ 2147483647 := by
  cases b with
  | num n => exact h
  | inf => exact he
  | caps => exact he
theorem rg_may (ps : List Bp) (h : ∀ x ∈ ps, prOk x) (ha : ps.all okP = true) : (ps.map vP).any badR = false := by
  rw [List.any_map, List.any_eq_false]
  intro p hp
  have h1 := of_decide_eq_true (List.all_eq_true.1 ha p hp)
  have h2 := v_ok p.1 (h p hp).1 (-2147483648) (by decide)
  have h3 := v_ok p.2 (h p hp).2 2147483647 (by decide)
  have h4 : (vP p).1 = p.1.v (-2147483648) := rfl
  have h5 : (vP p).2 = p.2.v 2147483647 := rfl
  simp only [Function.comp_apply, badR, Bool.or_eq_true, decide_eq_true_eq]
  omega
theorem rg_end (ps : List Bp) (bad : Bool) (h : ∀ x ∈ ps, prOk x) : endP (rgV1 ps bad) = (rgVE ps bad, 0) := by
  cases hg : gdP ps bad with
  | false =>
    rw [rgV1, rgVE, hg, if_neg Bool.false_ne_true, if_neg Bool.false_ne_true]
    kernel_rfl
  | true =>
    have ha : ps.all okP = true := by simp only [gdP, Bool.and_eq_true] at hg; exact hg.1.2
    rw [rgV1, rgVE, hg, if_pos rfl, if_pos rfl]
    have h1 : endP1 { rgB0 with auto := false, range := ps.map vP, said := 8 } = { rgE0 with auto := false, range := ps.map vP, said := 8 } := by kernel_rfl
    have h2 : ¬ (rgB0.system = extendsS ∧ (rgB0.symbolic || rgB0.additive) = true) := by decide
    have h3 : mayD { rgE0 with auto := false, range := ps.map vP, said := 8 } = true := by rw [may_rg, rg_may ps h ha]; rfl
    have h4 : endP { rgB0 with auto := false, range := ps.map vP, said := 8 } = (if rgB0.system = extendsS ∧ (rgB0.symbolic || rgB0.additive) = true then (zSd, 2) else if mayD (endP1 { rgB0 with auto := false, range := ps.map vP, said := 8 }) then (endP1 { rgB0 with auto := false, range := ps.map vP, said := 8 }, 0) else (zSd, 2)) := rfl
    rw [h4, if_neg h2, h1, if_pos h3]
theorem rv_def (p : Bp) (q : List Bp) (bad : Bool) (h : ∀ x ∈ p :: q, prOk x) : defP (rlG p q bad) = (rgVE (p :: q) bad, 0) := by
  have hn : nmF (rlG p q bad).pre = (⟨#[107]⟩, true) := nm_at
  have h1 : (rlG p q bad).at_ = csS ∧ (rlG p q bad).blk = true := ⟨rfl, rfl⟩
  have h2 : (true && !amgF fixN (lowS ⟨#[107]⟩)) = true := by kernel_rfl
  rw [defP, if_pos h1, hn, if_pos h2, rv_say, rg_end _ _ h]
theorem x_okT (p : Bp) (q : List Bp) (bad : Bool) : ((xT p q bad).map lf).all okT = true := by
  rw [List.all_map]
  refine List.all_eq_true.2 fun t ht => ?_
  have h2 := List.all_eq_true.1 (x_okX p q bad) t ht
  simp only [okX, goodT, Bool.and_eq_true] at h2
  exact h2.1.1.2
theorem x_len (p : Bp) (q : List Bp) (bad : Bool) : (xT p q bad).length ≤ 10 + 4 * q.length := by
  have ht : (tailT q).length = 4 * q.length := by
    induction q with
    | nil => rfl
    | cons x q ih => rw [show tailT (x :: q) = cmT :: x.1.T :: wT :: x.2.T :: tailT q from rfl]; simp only [List.length_cons, ih]; omega
  rw [xT]
  simp only [List.length_cons, List.length_append, ht]
  cases bad
  · rw [show (reT false).length = 0 from rfl]; omega
  · rw [show (reT true).length = 3 from rfl]; omega
theorem nszs_lf : ∀ l : List Tk, nszs (l.map lf) ≤ 2 * l.length
  | [] => Nat.le_refl _
  | t :: r => by
    have := nszs_lf r
    rw [List.map_cons, nszs, List.length_cons]
    have h : nsz (lf t) ≤ 2 := by rw [lf, nsz, nszs]; omega
    omega
theorem rv_okR (p : Bp) (q : List Bp) (bad : Bool) (hl : q.length ≤ 20) : okR (rlG p q bad) = true := by
  have hn : nmF (rlG p q bad).pre = (⟨#[107]⟩, true) := nm_at
  have hz := nszs_lf (xT p q bad)
  have hx := x_len p q bad
  have h4 : (rlG p q bad).decls.length ≤ 1099511627776 := show 2 ≤ 1099511627776 by decide
  have h5 : (rlG p q bad).decls.all (fun d => decide (nszs d.value < 1099511627776) && d.value.all okT) = true := by
    rw [show (rlG p q bad).decls = rv1D ++ [⟨rgN, (xT p q bad).map lf, false⟩] from rfl, List.all_append, List.all_cons, x_okT, decide_eq_true (by show nszs ((xT p q bad).map lf) < 1099511627776; omega)]
    kernel_rfl
  have hc : ∀ f : Sd → Prop, f rgB0 → f { rgB0 with auto := false, range := (p :: q).map vP, said := 8 } → f (rgV1 (p :: q) bad) := fun f h1 h2 => by
    rw [rgV1]
    split
    · exact h2
    · exact h1
  simp only [okR, Bool.and_eq_true, decide_eq_true_eq]
  refine ⟨⟨⟨⟨⟨⟨⟨⟨⟨?_, ?_⟩, h4⟩, h5⟩, ?_⟩, ?_⟩, ?_⟩, ?_⟩, ?_⟩, ?_⟩
  · exact of_decide_eq_true (by kernel_rfl)
  · kernel_rfl
  all_goals rw [hn]
  · decide
  all_goals rw [rv_say]
  · exact hc (fun S => S.syms.length ≤ 65536) (by decide) (show 1 ≤ 65536 by decide)
  · exact hc (fun S => S.sums.length ≤ 65536) (by decide) (show 0 ≤ 65536 by decide)
  · exact hc (fun S => S.wts.length ≤ 65536) (by decide) (show 0 ≤ 65536 by decide)
  · exact hc (fun S => S.range.length ≤ 65536) (by decide) (by show ((p :: q).map vP).length ≤ 65536; rw [List.length_map, List.length_cons]; omega)
  · exact hc (fun S => S.weights.length ≤ 65536) (by decide) (show 0 ≤ 65536 by decide)
theorem tail_len : ∀ q : List Bp, (tailL q).length ≤ 46 * q.length
  | [] => Nat.le_refl _
  | x :: q => by
    have h1 := tail_len q
    have h2 := bd_len x.1
    have h3 := bd_len x.2
    rw [show tailL (x :: q) = 44 :: (prL x ++ tailL q) from rfl, List.length_cons, List.length_append, List.length_cons, prL, List.length_append, List.length_append, List.length_singleton]
    omega
theorem rx_okSh (p : Bp) (q : List Bp) (bad : Bool) (h : ∀ x ∈ p :: q, prOk x) (hl : q.length ≤ 20) : okSh ⟨(rxL (p :: q) bad).toArray⟩ = true := by
  have hlf : ∀ t, goodT t = true → okT (lf t) = true := fun t ht => by rw [goodT, Bool.and_eq_true] at ht; exact ht.2
  have h5 : ((rvK p q bad).map lf).all okT = true := by
    rw [List.all_map]
    exact List.all_eq_true.2 fun t ht => hlf t (List.all_eq_true.1 (rv_good p q bad) t ht)
  have h6 : ((rvN p q bad).all fun n => okT n && n.kids.all okT) = true := by
    have : ((rvN p q bad).all fun n => okT n && n.kids.all okT) = (true && ((rvK p q bad).map lf).all okT && true) := by kernel_rfl
    rw [this, h5]
    rfl
  have h7 : (⟨(rxL (p :: q) bad).toArray⟩ : ByteArray).size ≤ 65536 := by
    have h1 := tail_len q
    have h2 := bd_len p.1
    have h3 := bd_len p.2
    have h4 : (reL bad).length ≤ 5 := by cases bad <;> decide
    rw [sz_list, rxL, bodyL, prL]
    simp only [List.length_append, List.length_singleton, show rhL.length = 37 from rfl]
    omega
  rw [okSh, rx_nds p q bad h, h6, rx_sht p q bad h, decide_eq_true h7]
  rfl
theorem rx_at (ps : List Bp) (bad : Bool) (h : ∀ x ∈ ps, prOk x) (hl : ps.length ≤ 20) : okSh ⟨(rxL ps bad).toArray⟩ = true ∧ (shF ⟨(rxL ps bad).toArray⟩).all okR = true ∧ one10F ⟨(rxL ps bad).toArray⟩ = (rgVE ps bad, 0) := by
  cases ps with
  | nil =>
    cases bad
    · exact ⟨by kernel_rfl, by kernel_rfl, by kernel_rfl⟩
    · exact ⟨by kernel_rfl, by kernel_rfl, by kernel_rfl⟩
  | cons p q =>
    have hl' : q.length ≤ 20 := by rw [List.length_cons] at hl; omega
    refine ⟨rx_okSh p q bad h hl', ?_, ?_⟩
    · rw [rx_sht p q bad h, List.all_cons, rv_okR p q bad hl']; rfl
    · rw [one10F, rx_sht p q bad h]
      exact rv_def p q bad h
end Go.Proofs.YtihakfihojickaaDoor
