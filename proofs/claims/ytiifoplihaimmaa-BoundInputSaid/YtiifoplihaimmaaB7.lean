/- Bound: the law BoundInput. -/
import Derived.Test.YtiifoplihaimmaaB6
namespace Go.Proofs.Ytiifoplihaimmaa
open Go Go.RowKit

def zs (m : Nat) : ByteArray := ⟨(List.replicate m (0 : UInt8)).toArray⟩
theorem zs_size (m : Nat) : (zs m).size = m := by rw [← str_size]; simp [zs]
def rawN (j : Nat) : D := .ag [.val (.int .i64 ((j : Int) - 1)), .val (.string ⟨#[97]⟩), .val (.string ⟨#[]⟩), .val (.slice none 0 0)]
theorem rep_b (m : Nat) : List.replicate m (bD 0) = (List.replicate m (0 : UInt8)).map bD := by simp

def attrF (A : Nat) (value : Int) (j : Nat) : ByteArray × ByteArray := (⟨#[110]⟩, zs (value / ((A : Int) - j)).toNat)
def rawR (j : Nat) : Raw := ⟨(j : Int) - 1, ⟨#[97]⟩, ⟨#[]⟩, []⟩
def lastR (m A : Nat) (tag text value : Int) : Raw := ⟨(m : Int) - 1, zs tag.toNat, zs text.toNat, (List.range A).map (attrF A value)⟩
theorem odd_attr (A : Nat) (value : Int) (j : Nat) : oddAt (attrF A value j) = decide (10000 < (((value / ((A : Int) - j)).toNat : Nat) : Int)) := by
  have h1 : (⟨#[110]⟩ : ByteArray).size = 1 := rfl
  simp only [oddAt, attrF, zs_size, h1]
  simp
theorem any_attrs (A : Nat) {value : Int} (h0 : 0 ≤ value) : ((List.range A).map (attrF A value)).any oddAt = (decide (0 < A) && decide (10000 < value)) := by
  rw [Bool.eq_iff_iff]
  simp only [List.any_map, List.any_eq_true, List.mem_range, Function.comp_def, odd_attr, decide_eq_true_eq, Bool.and_eq_true]
  constructor
  · rintro ⟨j, hj, h⟩
    have hd : value / ((A : Int) - j) ≤ value := Int.ediv_le_self _ h0
    exact ⟨by omega, by omega⟩
  · rintro ⟨hA, h⟩
    refine ⟨A - 1, by omega, ?_⟩
    have e : (A : Int) - ((A - 1 : Nat) : Int) = 1 := by omega
    rw [e, Int.ediv_one]
    omega
theorem odd_last (m A : Nat) {tag text value : Int} (ht : 0 ≤ tag) (hx : 0 ≤ text) (h0 : 0 ≤ value) : oddF (lastR m A tag text value) = (decide (10000 < tag) || decide (10000 < text) || decide (64 < A) || (decide (0 < A) && decide (10000 < value))) := by
  have e1 : (((tag.toNat : Nat) : Int)) = tag := by omega
  have e2 : (((text.toNat : Nat) : Int)) = text := by omega
  have e3 : decide (64 < (A : Int)) = decide (64 < A) := decide_eq_decide.2 (by omega)
  simp only [oddF, lastR, zs_size, any_attrs A h0, List.length_map, List.length_range, e1, e2, e3]
theorem odd_rawR (j : Nat) : oddF (rawR j) = false := by
  have h1 : ¬ 10000 < (((⟨#[97]⟩ : ByteArray).size : Nat) : Int) := by decide
  have h2 : ¬ 10000 < (((⟨#[]⟩ : ByteArray).size : Nat) : Int) := by decide
  simp [oddF, rawR, h1, h2]
def goodF (n tag text attrs value : Int) : Bool := decide (1 ≤ n) && decide (n ≤ 1000) && decide (tag ≤ 10000) && decide (text ≤ 10000) && decide (attrs ≤ 64) && (decide (attrs = 0) || decide (value ≤ 10000))
theorem input_last (bytes : Int) (m A : Nat) {tag text value : Int} (ht : 0 ≤ tag) (hx : 0 ≤ text) (h0 : 0 ≤ value) :
    inputF bytes ((List.range m).map rawR ++ [lastR m A tag text value]) = if 65536 < bytes then 3 else if goodF ((m + 1 : Nat) : Int) tag text A value = true then 0 else 4 := by
  have hany : ((List.range m).map rawR ++ [lastR m A tag text value]).any oddF = oddF (lastR m A tag text value) := by
    rw [List.any_append]
    have : ((List.range m).map rawR).any oddF = false := by
      rw [List.any_eq_false]
      intro x hx
      obtain ⟨j, _, rfl⟩ := List.mem_map.1 hx
      rw [odd_rawR]
      decide
    rw [this]
    simp
  rw [inputF, hany, odd_last m A ht hx h0]
  simp only [List.length_append, List.length_map, List.length_range, List.length_singleton]
  by_cases hb : 65536 < bytes
  · rw [if_pos hb, if_pos hb]
  · rw [if_neg hb, if_neg hb]
    by_cases hm : m + 1 ≤ 1000
    · rw [if_neg (by simp only [Bool.or_eq_true, decide_eq_true_eq]; omega)]
      by_cases hg : goodF ((m + 1 : Nat) : Int) tag text A value = true
      · rw [if_pos hg, if_neg]
        simp only [goodF, Bool.and_eq_true, Bool.or_eq_true, decide_eq_true_eq] at hg
        simp only [Bool.or_eq_true, Bool.and_eq_true, decide_eq_true_eq]
        omega
      · rw [if_neg hg, if_pos]
        simp only [goodF, Bool.and_eq_true, Bool.or_eq_true, decide_eq_true_eq] at hg
        simp only [Bool.or_eq_true, Bool.and_eq_true, decide_eq_true_eq]
        omega
    · rw [if_pos (by simp only [Bool.or_eq_true, decide_eq_true_eq]; omega), if_neg]
      simp only [goodF, Bool.and_eq_true, Bool.or_eq_true, decide_eq_true_eq]
      omega
theorem input_none (bytes tag text attrs value : Int) : inputF bytes [] = if 65536 < bytes then 3 else if goodF 0 tag text attrs value = true then 0 else 4 := by
  rw [inputF]
  by_cases hb : 65536 < bytes
  · rw [if_pos hb, if_pos hb]
  · rw [if_neg hb, if_neg hb, if_pos (by simp), if_neg (by simp [goodF])]

/-- What a datum says, another says. -/
theorem den_nil {w : World} {imm : Nat → Prop} {k : Nat} {cs : List Value} (h : DenC w imm (.val (.slice none 0 0)) cs) : DenC w imm (.sl k []) cs :=
  ⟨none, 0, 0, h.1, rfl, Nat.le_refl _, Nat.zero_le _, by simp [AllW], fun h => absurd h (by omega)⟩
theorem den_raw {w : World} {imm : Nat → Prop} {j : Nat} {cs : List Value} (h : DenC w imm (rawN j) cs) : DenC w imm (rawD (rawR j)) cs := by
  obtain ⟨c1, r1, e1, h1, c2, r2, e2, h2, c3, r3, e3, h3, c4, r4, e4, h4, h5⟩ := h
  exact ⟨c1, r1, e1, h1, c2, r2, e2, h2, c3, r3, e3, h3, c4, r4, e4, den_nil h4, h5⟩
theorem den_list {w : World} {imm : Nat → Prop} : ∀ {l : List Nat} {cs : List Value}, DenCs w imm (l.map rawN) cs → DenCs w imm ((l.map rawR).map rawD) cs
  | [], _, h => h
  | _ :: _, _, ⟨c1, c2, h1, h2, h3⟩ => ⟨c1, c2, h1, den_raw h2, den_list h3⟩
theorem sub_table (m A : Nat) (tag text value : Int) : Sub (.sl 4 ((List.range m).map rawN ++ [rawD (lastR m A tag text value)])) (.sl 4 (((List.range m).map rawR ++ [lastR m A tag text value]).map rawD)) := by
  rintro M β w imm v ⟨B, n, c, h1, h2, h3, h4, h5, h6⟩
  refine ⟨B, n, c, h1, by rw [h2]; simp, h3, h4, fun d hd => ?_, fun hn => ?_⟩
  · obtain ⟨r, _, rfl⟩ := List.mem_map.1 hd
    rfl
  · obtain ⟨g, off, rows, k1, k2, k3, k4⟩ := h6 hn
    obtain ⟨x, y, e1, e2, e3⟩ := k3.split
    refine ⟨g, off, rows, k1, k2, ?_, k4⟩
    rw [e1, List.map_append]
    exact (den_list e2).append e3
section
variable {P : Program} {ops : Array Oper} {N : Nat} {K : AS → Prop} {o : Oper} {r : List Oper} {fo fo' : Option (List Nat)} {M M' : List AB} {F : List (Nat × AV)} {dt : Tmp} {tab : List (Nat × TE)} {out : AV}
/-- A slice that is made: no own memory is looked at. -/
theorem r_make0 (ht : TyTab P tab) {T e : Nat} {ee : TE} {x y : Operand} {k k' : IntKind} {n : Int} (d : D) (hg : o.guard = none) (ho : o.op = .makeSlice T x y) (hT : elemOf_ tab T = some (e, ee)) (hx : aval (look F) x = .val (.int k n)) (hy : aval (look F) y = .val (.int k' n))
    (h0 : 0 ≤ n) (hb : (ee.bytes : Int) * n ≤ 281474976710656) (h63 : n ≤ 4611686018427387904) (hs : 0 < ee.size) (hz : ee.zero.length = ee.size) (hd' : ∀ w imm, DenC w imm d ee.zero) (hdd : o.dst = some dt) (hd : dstB o.dst N = true)
    (hp : popF fo 0 = some fo') (k : RunX P ops N K r fo' M ((dt, .sl ee.size (List.replicate n.toNat d)) :: F)) : RunX P ops N K (o :: r) fo M F :=
  RunX.mk (fun _ k => Run.pure_ hd (fun _ => StepG.plain hg (astep_make ht ho hT hx hy h0 hb h63 hs hz hd')) (by rw [put_eq hdd]; exact k)) hp k
end

set_option maxHeartbeats 8000000 in
theorem lawInput_ok (bytes n tag text attrs value : Int) : PCalls Try.prog 3 [.val (.int .i64 bytes), .val (.int .i64 n), .val (.int .i64 tag), .val (.int .i64 text), .val (.int .i64 attrs), .val (.int .i64 value)] (.val (.bool true)) := by
  refine p_start Try.func3 Try.ntmps3 rfl rfl rfl fun S w => ?_
  repeat (first
    | refine awp_seq ?_
    | refine thenA_normal ?_
    | refine awp_block ?_
    | refine a_region ?_
    | refine a_draw1 mixed_ok (by kernel_rfl) ?_
    | refine awp_ret ?_
    | refine awp_exit ?_
    | refine thenA_exit ?_
    | refine thenA_ret ?_
    | refine blockA_normal ?_
    | refine blockA_ret ?_
    | refine blockA_hit rfl ?_
    | refine blockA_miss rfl ?_
    | refine awp_skip ?_
    | refine r_done ?_
    | refine r_done' ?_
    | (refine r_id ?_; first
      | refine r_len tab_ok rfl rfl rfl rfl rfl rfl rfl ?_
      | refine r_ev tab_ok rfl rfl rfl rfl (by first | exact trivial | exact ⟨by omega, by omega⟩ | omega | exact ⟨by omega, by omega, by omega, by omega⟩ | exact Nat.le_of_ble_eq_true rfl) rfl ?_
      | refine r_ld tab_ok rfl rfl rfl rfl rfl ?_
      | refine r_idx tab_ok rfl rfl rfl rfl rfl rfl rfl (by first | exact ⟨by omega, by omega⟩ | (simp; omega)) rfl rfl ?_
      | refine r_idxd tab_ok rfl rfl rfl rfl rfl rfl rfl (by decide) rfl rfl rfl ?_
      | refine r_wr tab_ok rfl rfl rfl rfl rfl ?_
      | refine r_st tab_ok rfl rfl rfl rfl ?_
      | refine r_len_cnd tab_ok rfl rfl rfl rfl rfl rfl (by first | exact fun _ => rfl | exact cs1) rfl rfl rfl ?_
      | refine r_ev_cnd tab_ok rfl rfl rfl rfl rfl rfl (by first | exact fun _ => rfl | exact cs1 | exact cs2 | exact cs3) (by first | exact fun _ => trivial | (intro h; simp at h; first | exact ⟨by omega, by omega⟩ | omega)) rfl ?_
      | refine r_ld_cnd tab_ok rfl rfl rfl rfl rfl rfl (by first | exact fun _ => rfl | exact cs1 | exact cs2 | exact cs3) rfl ?_
      | refine r_idx_cnd tab_ok rfl rfl rfl rfl rfl rfl rfl (by first | exact fun _ => rfl | exact cs1 | exact cs2) rfl rfl (by exact ⟨by omega, by omega⟩) rfl rfl ?_
      | refine r_idx_cnd' tab_ok rfl rfl rfl rfl rfl rfl rfl (by first | exact fun _ => rfl | exact cs1 | exact cs2) rfl rfl (by intro h; simp at h; exact ⟨by omega, by omega⟩) rfl rfl ?_
      | refine r_and_cnd rfl rfl rfl rfl rfl rfl rfl rfl rfl rfl ?_
      | refine r_or_cnd rfl rfl rfl rfl rfl rfl rfl rfl rfl rfl ?_
      | refine r_or rfl rfl rfl rfl rfl rfl rfl rfl ?_
      | refine r_and rfl rfl rfl rfl rfl rfl rfl rfl ?_
      | refine r_pick_t rfl rfl rfl rfl rfl rfl rfl ?_
      | refine r_pick_f rfl rfl rfl rfl rfl rfl rfl ?_
      | refine r_off rfl rfl rfl rfl rfl rfl ?_
      | refine r_len_on tab_ok rfl rfl rfl rfl rfl rfl rfl rfl rfl ?_
      | refine r_ev_on tab_ok rfl rfl rfl rfl rfl rfl (by first | exact trivial | exact ⟨by omega, by omega⟩ | omega) rfl ?_
      | refine r_ld_on tab_ok rfl rfl rfl rfl rfl rfl rfl ?_
      | refine r_build tab_ok rfl rfl rfl rfl rfl rfl ?_
      | refine r_bstr tab_ok rfl rfl rfl rfl rfl rfl rfl rfl rfl rfl ?_
      | refine r_build_cnd tab_ok rfl rfl rfl rfl rfl (by first | exact fun _ => rfl | exact cs1) rfl rfl rfl ?_
      | refine r_built_cnd tab_ok rfl rfl rfl rfl rfl rfl rfl rfl (by first | exact fun _ => rfl | exact cs1) rfl rfl rfl ?_
      | refine r_rem rfl rfl rfl rfl rfl rfl (by omega) rfl ?_
      | refine r_built0 tab_ok rfl rfl rfl rfl rfl rfl rfl ?_
      | refine r_built tab_ok rfl rfl rfl rfl rfl rfl rfl rfl rfl ?_
      | refine r_range tab_ok rfl rfl rfl rfl rfl rfl rfl ?_
      | refine r_next rfl rfl rfl rfl (by assumption) rfl rfl rfl ?_
      | refine r_next_end rfl rfl rfl rfl (by assumption) rfl rfl rfl ?_
      | refine r_nilck rfl rfl rfl rfl rfl rfl rfl ?_
      | refine r_rstr tab_ok rfl rfl rfl rfl rfl rfl rfl rfl ?_
      | refine r_rsstr tab_ok rfl rfl rfl rfl rfl rfl rfl rfl rfl rfl ?_
      | refine r_bstr' tab_ok rfl rfl rfl rfl rfl rfl rfl rfl rfl ?_
      | refine r_rowstr tab_ok rfl rfl rfl rfl rfl rfl rfl rfl rfl rfl ?_
      | refine r_strd tab_ok rfl rfl rfl rfl rfl rfl (by omega) rfl rfl rfl ?_
      | refine r_idxr tab_ok rfl rfl rfl rfl rfl rfl rfl rfl (by first | exact ⟨by omega, by omega⟩ | (simp; omega)) rfl ?_
      | refine r_lde tab_ok rfl rfl rfl rfl rfl (by omega) rfl rfl rfl rfl ?_
      | refine r_idxr_cnd tab_ok rfl rfl rfl rfl rfl rfl rfl rfl (by first | exact fun _ => rfl | exact cs1 | exact cs2) rfl rfl (by first | (intro _; exact ⟨by omega, by omega⟩) | (intro h; simp at h ⊢; omega)) rfl ?_
      | refine r_lde_cnd tab_ok rfl rfl rfl rfl rfl rfl rfl (by first | exact fun _ => rfl | exact cs1 | exact cs2) (by omega) rfl rfl rfl rfl ?_
      | refine r_cut tab_ok rfl rfl rfl rfl rfl rfl rfl rfl (by first | exact ⟨by simp, by simp; omega, by simp⟩ | (simp; omega)) rfl ?_
      | refine r_append tab_ok rfl rfl rfl rfl rfl rfl rfl rfl rfl (by first | omega | (simp; omega)) rfl ?_
      | refine r_append_nil tab_ok rfl rfl rfl rfl rfl rfl rfl rfl (by first | omega | (simp; omega)) rfl ?_)
    | refine ret1 (by first | exact .inl rfl | exact .inr rfl) rfl rfl rfl ?_
    | refine ret1_row (by first | exact .inl rfl | exact .inr rfl) rfl rfl rfl ?_
    | refine ret2 (by first | exact .inl rfl | exact .inr rfl) rfl rfl rfl rfl ?_ ?_
    | refine retM1 (by first | exact .inl rfl | exact .inr rfl) rfl rfl rfl rfl rfl ?_
    | exact retM0 (by first | exact .inl rfl | exact .inr rfl) rfl rfl rfl
    | refine awp_cond_t rfl ?_
    | refine awp_cond_f rfl ?_)
  refine awp_cond rfl (fun h => ?_) (fun h => ?_)
  · repeat (first
      | refine awp_seq ?_
      | refine thenA_normal ?_
      | refine awp_block ?_
      | refine a_region ?_
      | refine a_draw1 mixed_ok (by kernel_rfl) ?_
      | refine awp_ret ?_
      | refine awp_exit ?_
      | refine thenA_exit ?_
      | refine thenA_ret ?_
      | refine blockA_normal ?_
      | refine blockA_ret ?_
      | refine blockA_hit rfl ?_
      | refine blockA_miss rfl ?_
      | refine awp_skip ?_
      | refine r_done ?_
      | refine r_done' ?_
      | (refine r_id ?_; first
        | refine r_len tab_ok rfl rfl rfl rfl rfl rfl rfl ?_
        | refine r_ev tab_ok rfl rfl rfl rfl (by first | exact trivial | exact ⟨by omega, by omega⟩ | omega | exact ⟨by omega, by omega, by omega, by omega⟩ | exact Nat.le_of_ble_eq_true rfl) rfl ?_
        | refine r_ld tab_ok rfl rfl rfl rfl rfl ?_
        | refine r_idx tab_ok rfl rfl rfl rfl rfl rfl rfl (by first | exact ⟨by omega, by omega⟩ | (simp; omega)) rfl rfl ?_
        | refine r_idxd tab_ok rfl rfl rfl rfl rfl rfl rfl (by decide) rfl rfl rfl ?_
        | refine r_wr tab_ok rfl rfl rfl rfl rfl ?_
        | refine r_st tab_ok rfl rfl rfl rfl ?_
        | refine r_len_cnd tab_ok rfl rfl rfl rfl rfl rfl (by first | exact fun _ => rfl | exact cs1) rfl rfl rfl ?_
        | refine r_ev_cnd tab_ok rfl rfl rfl rfl rfl rfl (by first | exact fun _ => rfl | exact cs1 | exact cs2 | exact cs3) (by first | exact fun _ => trivial | (intro h; simp at h; first | exact ⟨by omega, by omega⟩ | omega)) rfl ?_
        | refine r_ld_cnd tab_ok rfl rfl rfl rfl rfl rfl (by first | exact fun _ => rfl | exact cs1 | exact cs2 | exact cs3) rfl ?_
        | refine r_idx_cnd tab_ok rfl rfl rfl rfl rfl rfl rfl (by first | exact fun _ => rfl | exact cs1 | exact cs2) rfl rfl (by exact ⟨by omega, by omega⟩) rfl rfl ?_
        | refine r_idx_cnd' tab_ok rfl rfl rfl rfl rfl rfl rfl (by first | exact fun _ => rfl | exact cs1 | exact cs2) rfl rfl (by intro h; simp at h; exact ⟨by omega, by omega⟩) rfl rfl ?_
        | refine r_and_cnd rfl rfl rfl rfl rfl rfl rfl rfl rfl rfl ?_
        | refine r_or_cnd rfl rfl rfl rfl rfl rfl rfl rfl rfl rfl ?_
        | refine r_or rfl rfl rfl rfl rfl rfl rfl rfl ?_
        | refine r_and rfl rfl rfl rfl rfl rfl rfl rfl ?_
        | refine r_pick_t rfl rfl rfl rfl rfl rfl rfl ?_
        | refine r_pick_f rfl rfl rfl rfl rfl rfl rfl ?_
        | refine r_off rfl rfl rfl rfl rfl rfl ?_
        | refine r_len_on tab_ok rfl rfl rfl rfl rfl rfl rfl rfl rfl ?_
        | refine r_ev_on tab_ok rfl rfl rfl rfl rfl rfl (by first | exact trivial | exact ⟨by omega, by omega⟩ | omega) rfl ?_
        | refine r_ld_on tab_ok rfl rfl rfl rfl rfl rfl rfl ?_
        | refine r_build tab_ok rfl rfl rfl rfl rfl rfl ?_
        | refine r_bstr tab_ok rfl rfl rfl rfl rfl rfl rfl rfl rfl rfl ?_
        | refine r_build_cnd tab_ok rfl rfl rfl rfl rfl (by first | exact fun _ => rfl | exact cs1) rfl rfl rfl ?_
        | refine r_built_cnd tab_ok rfl rfl rfl rfl rfl rfl rfl rfl (by first | exact fun _ => rfl | exact cs1) rfl rfl rfl ?_
        | refine r_rem rfl rfl rfl rfl rfl rfl (by omega) rfl ?_
        | refine r_built0 tab_ok rfl rfl rfl rfl rfl rfl rfl ?_
        | refine r_built tab_ok rfl rfl rfl rfl rfl rfl rfl rfl rfl ?_
        | refine r_range tab_ok rfl rfl rfl rfl rfl rfl rfl ?_
        | refine r_next rfl rfl rfl rfl (by assumption) rfl rfl rfl ?_
        | refine r_next_end rfl rfl rfl rfl (by assumption) rfl rfl rfl ?_
        | refine r_nilck rfl rfl rfl rfl rfl rfl rfl ?_
        | refine r_rstr tab_ok rfl rfl rfl rfl rfl rfl rfl rfl ?_
        | refine r_rsstr tab_ok rfl rfl rfl rfl rfl rfl rfl rfl rfl rfl ?_
        | refine r_bstr' tab_ok rfl rfl rfl rfl rfl rfl rfl rfl rfl ?_
        | refine r_rowstr tab_ok rfl rfl rfl rfl rfl rfl rfl rfl rfl rfl ?_
        | refine r_strd tab_ok rfl rfl rfl rfl rfl rfl (by omega) rfl rfl rfl ?_
        | refine r_idxr tab_ok rfl rfl rfl rfl rfl rfl rfl rfl (by first | exact ⟨by omega, by omega⟩ | (simp; omega)) rfl ?_
        | refine r_lde tab_ok rfl rfl rfl rfl rfl (by omega) rfl rfl rfl rfl ?_
        | refine r_idxr_cnd tab_ok rfl rfl rfl rfl rfl rfl rfl rfl (by first | exact fun _ => rfl | exact cs1 | exact cs2) rfl rfl (by first | (intro _; exact ⟨by omega, by omega⟩) | (intro h; simp at h ⊢; omega)) rfl ?_
        | refine r_lde_cnd tab_ok rfl rfl rfl rfl rfl rfl rfl (by first | exact fun _ => rfl | exact cs1 | exact cs2) (by omega) rfl rfl rfl rfl ?_
        | refine r_cut tab_ok rfl rfl rfl rfl rfl rfl rfl rfl (by first | exact ⟨by simp, by simp; omega, by simp⟩ | (simp; omega)) rfl ?_
        | refine r_append tab_ok rfl rfl rfl rfl rfl rfl rfl rfl rfl (by first | omega | (simp; omega)) rfl ?_
        | refine r_append_nil tab_ok rfl rfl rfl rfl rfl rfl rfl rfl (by first | omega | (simp; omega)) rfl ?_)
      | refine ret1 (by first | exact .inl rfl | exact .inr rfl) rfl rfl rfl ?_
      | refine ret1_row (by first | exact .inl rfl | exact .inr rfl) rfl rfl rfl ?_
      | refine ret2 (by first | exact .inl rfl | exact .inr rfl) rfl rfl rfl rfl ?_ ?_
      | refine retM1 (by first | exact .inl rfl | exact .inr rfl) rfl rfl rfl rfl rfl ?_
      | exact retM0 (by first | exact .inl rfl | exact .inr rfl) rfl rfl rfl
      | refine awp_cond_t rfl ?_
      | refine awp_cond_f rfl ?_)
    refine r_call awake_ok call7 rfl rfl (by repeat' first | exact trivial | exact Sub.refl _ | exact Sub.nil _ | refine Sub.agg ?_ | apply And.intro) rfl rfl rfl rfl ?_
    repeat (first
      | refine awp_seq ?_
      | refine thenA_normal ?_
      | refine awp_block ?_
      | refine a_region ?_
      | refine a_draw1 mixed_ok (by kernel_rfl) ?_
      | refine awp_ret ?_
      | refine awp_exit ?_
      | refine thenA_exit ?_
      | refine thenA_ret ?_
      | refine blockA_normal ?_
      | refine blockA_ret ?_
      | refine blockA_hit rfl ?_
      | refine blockA_miss rfl ?_
      | refine awp_skip ?_
      | refine r_done ?_
      | refine r_done' ?_
      | (refine r_id ?_; first
        | refine r_len tab_ok rfl rfl rfl rfl rfl rfl rfl ?_
        | refine r_ev tab_ok rfl rfl rfl rfl (by first | exact trivial | exact ⟨by omega, by omega⟩ | omega | exact ⟨by omega, by omega, by omega, by omega⟩ | exact Nat.le_of_ble_eq_true rfl) rfl ?_
        | refine r_ld tab_ok rfl rfl rfl rfl rfl ?_
        | refine r_idx tab_ok rfl rfl rfl rfl rfl rfl rfl (by first | exact ⟨by omega, by omega⟩ | (simp; omega)) rfl rfl ?_
        | refine r_idxd tab_ok rfl rfl rfl rfl rfl rfl rfl (by decide) rfl rfl rfl ?_
        | refine r_wr tab_ok rfl rfl rfl rfl rfl ?_
        | refine r_st tab_ok rfl rfl rfl rfl ?_
        | refine r_len_cnd tab_ok rfl rfl rfl rfl rfl rfl (by first | exact fun _ => rfl | exact cs1) rfl rfl rfl ?_
        | refine r_ev_cnd tab_ok rfl rfl rfl rfl rfl rfl (by first | exact fun _ => rfl | exact cs1 | exact cs2 | exact cs3) (by first | exact fun _ => trivial | (intro h; simp at h; first | exact ⟨by omega, by omega⟩ | omega)) rfl ?_
        | refine r_ld_cnd tab_ok rfl rfl rfl rfl rfl rfl (by first | exact fun _ => rfl | exact cs1 | exact cs2 | exact cs3) rfl ?_
        | refine r_idx_cnd tab_ok rfl rfl rfl rfl rfl rfl rfl (by first | exact fun _ => rfl | exact cs1 | exact cs2) rfl rfl (by exact ⟨by omega, by omega⟩) rfl rfl ?_
        | refine r_idx_cnd' tab_ok rfl rfl rfl rfl rfl rfl rfl (by first | exact fun _ => rfl | exact cs1 | exact cs2) rfl rfl (by intro h; simp at h; exact ⟨by omega, by omega⟩) rfl rfl ?_
        | refine r_and_cnd rfl rfl rfl rfl rfl rfl rfl rfl rfl rfl ?_
        | refine r_or_cnd rfl rfl rfl rfl rfl rfl rfl rfl rfl rfl ?_
        | refine r_or rfl rfl rfl rfl rfl rfl rfl rfl ?_
        | refine r_and rfl rfl rfl rfl rfl rfl rfl rfl ?_
        | refine r_pick_t rfl rfl rfl rfl rfl rfl rfl ?_
        | refine r_pick_f rfl rfl rfl rfl rfl rfl rfl ?_
        | refine r_off rfl rfl rfl rfl rfl rfl ?_
        | refine r_len_on tab_ok rfl rfl rfl rfl rfl rfl rfl rfl rfl ?_
        | refine r_ev_on tab_ok rfl rfl rfl rfl rfl rfl (by first | exact trivial | exact ⟨by omega, by omega⟩ | omega) rfl ?_
        | refine r_ld_on tab_ok rfl rfl rfl rfl rfl rfl rfl ?_
        | refine r_build tab_ok rfl rfl rfl rfl rfl rfl ?_
        | refine r_bstr tab_ok rfl rfl rfl rfl rfl rfl rfl rfl rfl rfl ?_
        | refine r_build_cnd tab_ok rfl rfl rfl rfl rfl (by first | exact fun _ => rfl | exact cs1) rfl rfl rfl ?_
        | refine r_built_cnd tab_ok rfl rfl rfl rfl rfl rfl rfl rfl (by first | exact fun _ => rfl | exact cs1) rfl rfl rfl ?_
        | refine r_rem rfl rfl rfl rfl rfl rfl (by omega) rfl ?_
        | refine r_built0 tab_ok rfl rfl rfl rfl rfl rfl rfl ?_
        | refine r_built tab_ok rfl rfl rfl rfl rfl rfl rfl rfl rfl ?_
        | refine r_range tab_ok rfl rfl rfl rfl rfl rfl rfl ?_
        | refine r_next rfl rfl rfl rfl (by assumption) rfl rfl rfl ?_
        | refine r_next_end rfl rfl rfl rfl (by assumption) rfl rfl rfl ?_
        | refine r_nilck rfl rfl rfl rfl rfl rfl rfl ?_
        | refine r_rstr tab_ok rfl rfl rfl rfl rfl rfl rfl rfl ?_
        | refine r_rsstr tab_ok rfl rfl rfl rfl rfl rfl rfl rfl rfl rfl ?_
        | refine r_bstr' tab_ok rfl rfl rfl rfl rfl rfl rfl rfl rfl ?_
        | refine r_rowstr tab_ok rfl rfl rfl rfl rfl rfl rfl rfl rfl rfl ?_
        | refine r_strd tab_ok rfl rfl rfl rfl rfl rfl (by omega) rfl rfl rfl ?_
        | refine r_idxr tab_ok rfl rfl rfl rfl rfl rfl rfl rfl (by first | exact ⟨by omega, by omega⟩ | (simp; omega)) rfl ?_
        | refine r_lde tab_ok rfl rfl rfl rfl rfl (by omega) rfl rfl rfl rfl ?_
        | refine r_idxr_cnd tab_ok rfl rfl rfl rfl rfl rfl rfl rfl (by first | exact fun _ => rfl | exact cs1 | exact cs2) rfl rfl (by first | (intro _; exact ⟨by omega, by omega⟩) | (intro h; simp at h ⊢; omega)) rfl ?_
        | refine r_lde_cnd tab_ok rfl rfl rfl rfl rfl rfl rfl (by first | exact fun _ => rfl | exact cs1 | exact cs2) (by omega) rfl rfl rfl rfl ?_
        | refine r_cut tab_ok rfl rfl rfl rfl rfl rfl rfl rfl (by first | exact ⟨by simp, by simp; omega, by simp⟩ | (simp; omega)) rfl ?_
        | refine r_append tab_ok rfl rfl rfl rfl rfl rfl rfl rfl rfl (by first | omega | (simp; omega)) rfl ?_
        | refine r_append_nil tab_ok rfl rfl rfl rfl rfl rfl rfl rfl (by first | omega | (simp; omega)) rfl ?_)
      | refine ret1 (by first | exact .inl rfl | exact .inr rfl) rfl rfl rfl ?_
      | refine ret1_row (by first | exact .inl rfl | exact .inr rfl) rfl rfl rfl ?_
      | refine ret2 (by first | exact .inl rfl | exact .inr rfl) rfl rfl rfl rfl ?_ ?_
      | refine retM1 (by first | exact .inl rfl | exact .inr rfl) rfl rfl rfl rfl rfl ?_
      | exact retM0 (by first | exact .inl rfl | exact .inr rfl) rfl rfl rfl
      | refine awp_cond_t rfl ?_
      | refine awp_cond_f rfl ?_)
    exact Sub.refl _
  · have hh : 0 ≤ n ∧ n ≤ 1100 ∧ 0 ≤ tag ∧ tag ≤ 10010 ∧ 0 ≤ text ∧ text ≤ 10010 ∧ 0 ≤ attrs ∧ attrs ≤ 70 ∧ 0 ≤ value ∧ value ≤ 10010 := by
      simp only [Bool.or_eq_false_iff, decide_eq_false_iff_not] at h; omega
    clear h
    obtain ⟨hn0, hn1, htag0, htag1, htext0, htext1, hat0, hat1, hv0, hv1⟩ := hh
    obtain ⟨N, rfl⟩ : ∃ N : Nat, n = N := ⟨n.toNat, by omega⟩
    repeat (first
      | refine awp_seq ?_
      | refine thenA_normal ?_
      | refine awp_block ?_
      | refine a_region ?_
      | refine a_draw1 mixed_ok (by kernel_rfl) ?_
      | refine awp_ret ?_
      | refine awp_exit ?_
      | refine thenA_exit ?_
      | refine thenA_ret ?_
      | refine blockA_normal ?_
      | refine blockA_ret ?_
      | refine blockA_hit rfl ?_
      | refine blockA_miss rfl ?_
      | refine awp_skip ?_
      | refine r_done ?_
      | refine r_done' ?_
      | (refine r_id ?_; first
        | refine r_len tab_ok rfl rfl rfl rfl rfl rfl rfl ?_
        | refine r_ev tab_ok rfl rfl rfl rfl (by first | exact trivial | exact ⟨by omega, by omega⟩ | omega | exact ⟨by omega, by omega, by omega, by omega⟩ | exact Nat.le_of_ble_eq_true rfl) rfl ?_
        | refine r_ld tab_ok rfl rfl rfl rfl rfl ?_
        | refine r_idx tab_ok rfl rfl rfl rfl rfl rfl rfl (by first | exact ⟨by omega, by omega⟩ | (simp; omega)) rfl rfl ?_
        | refine r_idxd tab_ok rfl rfl rfl rfl rfl rfl rfl (by decide) rfl rfl rfl ?_
        | refine r_wr tab_ok rfl rfl rfl rfl rfl ?_
        | refine r_st tab_ok rfl rfl rfl rfl ?_
        | refine r_len_cnd tab_ok rfl rfl rfl rfl rfl rfl (by first | exact fun _ => rfl | exact cs1) rfl rfl rfl ?_
        | refine r_ev_cnd tab_ok rfl rfl rfl rfl rfl rfl (by first | exact fun _ => rfl | exact cs1 | exact cs2 | exact cs3) (by first | exact fun _ => trivial | (intro h; simp at h; first | exact ⟨by omega, by omega⟩ | omega)) rfl ?_
        | refine r_ld_cnd tab_ok rfl rfl rfl rfl rfl rfl (by first | exact fun _ => rfl | exact cs1 | exact cs2 | exact cs3) rfl ?_
        | refine r_idx_cnd tab_ok rfl rfl rfl rfl rfl rfl rfl (by first | exact fun _ => rfl | exact cs1 | exact cs2) rfl rfl (by exact ⟨by omega, by omega⟩) rfl rfl ?_
        | refine r_idx_cnd' tab_ok rfl rfl rfl rfl rfl rfl rfl (by first | exact fun _ => rfl | exact cs1 | exact cs2) rfl rfl (by intro h; simp at h; exact ⟨by omega, by omega⟩) rfl rfl ?_
        | refine r_and_cnd rfl rfl rfl rfl rfl rfl rfl rfl rfl rfl ?_
        | refine r_or_cnd rfl rfl rfl rfl rfl rfl rfl rfl rfl rfl ?_
        | refine r_or rfl rfl rfl rfl rfl rfl rfl rfl ?_
        | refine r_and rfl rfl rfl rfl rfl rfl rfl rfl ?_
        | refine r_pick_t rfl rfl rfl rfl rfl rfl rfl ?_
        | refine r_pick_f rfl rfl rfl rfl rfl rfl rfl ?_
        | refine r_off rfl rfl rfl rfl rfl rfl ?_
        | refine r_len_on tab_ok rfl rfl rfl rfl rfl rfl rfl rfl rfl ?_
        | refine r_ev_on tab_ok rfl rfl rfl rfl rfl rfl (by first | exact trivial | exact ⟨by omega, by omega⟩ | omega) rfl ?_
        | refine r_ld_on tab_ok rfl rfl rfl rfl rfl rfl rfl ?_
        | refine r_build tab_ok rfl rfl rfl rfl rfl rfl ?_
        | refine r_bstr tab_ok rfl rfl rfl rfl rfl rfl rfl rfl rfl rfl ?_
        | refine r_build_cnd tab_ok rfl rfl rfl rfl rfl (by first | exact fun _ => rfl | exact cs1) rfl rfl rfl ?_
        | refine r_built_cnd tab_ok rfl rfl rfl rfl rfl rfl rfl rfl (by first | exact fun _ => rfl | exact cs1) rfl rfl rfl ?_
        | refine r_rem rfl rfl rfl rfl rfl rfl (by omega) rfl ?_
        | refine r_built0 tab_ok rfl rfl rfl rfl rfl rfl rfl ?_
        | refine r_built tab_ok rfl rfl rfl rfl rfl rfl rfl rfl rfl ?_
        | refine r_range tab_ok rfl rfl rfl rfl rfl rfl rfl ?_
        | refine r_next rfl rfl rfl rfl (by assumption) rfl rfl rfl ?_
        | refine r_next_end rfl rfl rfl rfl (by assumption) rfl rfl rfl ?_
        | refine r_nilck rfl rfl rfl rfl rfl rfl rfl ?_
        | refine r_rstr tab_ok rfl rfl rfl rfl rfl rfl rfl rfl ?_
        | refine r_rsstr tab_ok rfl rfl rfl rfl rfl rfl rfl rfl rfl rfl ?_
        | refine r_bstr' tab_ok rfl rfl rfl rfl rfl rfl rfl rfl rfl ?_
        | refine r_rowstr tab_ok rfl rfl rfl rfl rfl rfl rfl rfl rfl rfl ?_
        | refine r_strd tab_ok rfl rfl rfl rfl rfl rfl (by omega) rfl rfl rfl ?_
        | refine r_idxr tab_ok rfl rfl rfl rfl rfl rfl rfl rfl (by first | exact ⟨by omega, by omega⟩ | (simp; omega)) rfl ?_
        | refine r_lde tab_ok rfl rfl rfl rfl rfl (by omega) rfl rfl rfl rfl ?_
        | refine r_idxr_cnd tab_ok rfl rfl rfl rfl rfl rfl rfl rfl (by first | exact fun _ => rfl | exact cs1 | exact cs2) rfl rfl (by first | (intro _; exact ⟨by omega, by omega⟩) | (intro h; simp at h ⊢; omega)) rfl ?_
        | refine r_lde_cnd tab_ok rfl rfl rfl rfl rfl rfl rfl (by first | exact fun _ => rfl | exact cs1 | exact cs2) (by omega) rfl rfl rfl rfl ?_
        | refine r_cut tab_ok rfl rfl rfl rfl rfl rfl rfl rfl (by first | exact ⟨by simp, by simp; omega, by simp⟩ | (simp; omega)) rfl ?_
        | refine r_append tab_ok rfl rfl rfl rfl rfl rfl rfl rfl rfl (by first | omega | (simp; omega)) rfl ?_
        | refine r_append_nil tab_ok rfl rfl rfl rfl rfl rfl rfl rfl (by first | omega | (simp; omega)) rfl ?_)
      | refine ret1 (by first | exact .inl rfl | exact .inr rfl) rfl rfl rfl ?_
      | refine ret1_row (by first | exact .inl rfl | exact .inr rfl) rfl rfl rfl ?_
      | refine ret2 (by first | exact .inl rfl | exact .inr rfl) rfl rfl rfl rfl ?_ ?_
      | refine retM1 (by first | exact .inl rfl | exact .inr rfl) rfl rfl rfl rfl rfl ?_
      | exact retM0 (by first | exact .inl rfl | exact .inr rfl) rfl rfl rfl
      | refine awp_cond_t rfl ?_
      | refine awp_cond_f rfl ?_)
    refine a_loop (σ := {i : Nat // i ≤ N}) (fun x => [.row 0 26 4 ((List.range x.1).map rawN)]) (fun x => [(0, .val (.int .i64 bytes)), (1, .val (.int .i64 N)), (2, .val (.int .i64 tag)), (3, .val (.int .i64 text)), (4, .val (.int .i64 attrs)), (5, .val (.int .i64 value)), (13, .row 0 0), (14, .val (.int .i64 x.1))])
      (fun x => N - x.1) ⟨0, by omega⟩ (fits_conv (by repeat' first | exact trivial | exact rfl | (rw [List.map_append]; first | done | rfl) | exact c_sub rfl (Sub.refl _) rfl | exact c_nil rfl rfl | exact c_thaw rfl rfl rfl | exact c_row rfl rfl rfl | exact c_row rfl rfl (by rw [List.map_append]; first | done | rfl) | exact c_ptr rfl rfl rfl rfl | exact Or.inl ⟨c_sub rfl (Sub.refl _) rfl, c_ptr rfl rfl rfl rfl⟩ | exact c_alt rfl rfl rfl rfl | exact c_ro rfl rfl | exact c_eo rfl rfl | exact c_sub rfl (Sub.altl _ _) rfl | refine ⟨_, _, rfl, ?_, ?_⟩ | apply And.intro) (by repeat' first | exact trivial | exact rfl | (rw [List.map_append]; first | done | rfl) | exact c_sub rfl (Sub.refl _) rfl | exact c_nil rfl rfl | exact c_thaw rfl rfl rfl | exact c_row rfl rfl rfl | exact c_row rfl rfl (by rw [List.map_append]; first | done | rfl) | exact c_ptr rfl rfl rfl rfl | exact Or.inl ⟨c_sub rfl (Sub.refl _) rfl, c_ptr rfl rfl rfl rfl⟩ | exact c_alt rfl rfl rfl rfl | exact c_ro rfl rfl | exact c_eo rfl rfl | exact c_sub rfl (Sub.altl _ _) rfl | refine ⟨_, _, rfl, ?_, ?_⟩ | apply And.intro)) ?_
    rintro ⟨i, hi⟩
    dsimp only
    repeat (first
      | refine awp_seq ?_
      | refine thenA_normal ?_
      | refine awp_block ?_
      | refine a_region ?_
      | refine a_draw1 mixed_ok (by kernel_rfl) ?_
      | refine awp_ret ?_
      | refine awp_exit ?_
      | refine thenA_exit ?_
      | refine thenA_ret ?_
      | refine blockA_normal ?_
      | refine blockA_ret ?_
      | refine blockA_hit rfl ?_
      | refine blockA_miss rfl ?_
      | refine awp_skip ?_
      | refine r_done ?_
      | refine r_done' ?_
      | (refine r_id ?_; first
        | refine r_len tab_ok rfl rfl rfl rfl rfl rfl rfl ?_
        | refine r_ev tab_ok rfl rfl rfl rfl (by first | exact trivial | exact ⟨by omega, by omega⟩ | omega | exact ⟨by omega, by omega, by omega, by omega⟩ | exact Nat.le_of_ble_eq_true rfl) rfl ?_
        | refine r_ld tab_ok rfl rfl rfl rfl rfl ?_
        | refine r_idx tab_ok rfl rfl rfl rfl rfl rfl rfl (by first | exact ⟨by omega, by omega⟩ | (simp; omega)) rfl rfl ?_
        | refine r_idxd tab_ok rfl rfl rfl rfl rfl rfl rfl (by decide) rfl rfl rfl ?_
        | refine r_wr tab_ok rfl rfl rfl rfl rfl ?_
        | refine r_st tab_ok rfl rfl rfl rfl ?_
        | refine r_len_cnd tab_ok rfl rfl rfl rfl rfl rfl (by first | exact fun _ => rfl | exact cs1) rfl rfl rfl ?_
        | refine r_ev_cnd tab_ok rfl rfl rfl rfl rfl rfl (by first | exact fun _ => rfl | exact cs1 | exact cs2 | exact cs3) (by first | exact fun _ => trivial | (intro h; simp at h; first | exact ⟨by omega, by omega⟩ | omega)) rfl ?_
        | refine r_ld_cnd tab_ok rfl rfl rfl rfl rfl rfl (by first | exact fun _ => rfl | exact cs1 | exact cs2 | exact cs3) rfl ?_
        | refine r_idx_cnd tab_ok rfl rfl rfl rfl rfl rfl rfl (by first | exact fun _ => rfl | exact cs1 | exact cs2) rfl rfl (by exact ⟨by omega, by omega⟩) rfl rfl ?_
        | refine r_idx_cnd' tab_ok rfl rfl rfl rfl rfl rfl rfl (by first | exact fun _ => rfl | exact cs1 | exact cs2) rfl rfl (by intro h; simp at h; exact ⟨by omega, by omega⟩) rfl rfl ?_
        | refine r_and_cnd rfl rfl rfl rfl rfl rfl rfl rfl rfl rfl ?_
        | refine r_or_cnd rfl rfl rfl rfl rfl rfl rfl rfl rfl rfl ?_
        | refine r_or rfl rfl rfl rfl rfl rfl rfl rfl ?_
        | refine r_and rfl rfl rfl rfl rfl rfl rfl rfl ?_
        | refine r_pick_t rfl rfl rfl rfl rfl rfl rfl ?_
        | refine r_pick_f rfl rfl rfl rfl rfl rfl rfl ?_
        | refine r_off rfl rfl rfl rfl rfl rfl ?_
        | refine r_len_on tab_ok rfl rfl rfl rfl rfl rfl rfl rfl rfl ?_
        | refine r_ev_on tab_ok rfl rfl rfl rfl rfl rfl (by first | exact trivial | exact ⟨by omega, by omega⟩ | omega) rfl ?_
        | refine r_ld_on tab_ok rfl rfl rfl rfl rfl rfl rfl ?_
        | refine r_build tab_ok rfl rfl rfl rfl rfl rfl ?_
        | refine r_bstr tab_ok rfl rfl rfl rfl rfl rfl rfl rfl rfl rfl ?_
        | refine r_build_cnd tab_ok rfl rfl rfl rfl rfl (by first | exact fun _ => rfl | exact cs1) rfl rfl rfl ?_
        | refine r_built_cnd tab_ok rfl rfl rfl rfl rfl rfl rfl rfl (by first | exact fun _ => rfl | exact cs1) rfl rfl rfl ?_
        | refine r_rem rfl rfl rfl rfl rfl rfl (by omega) rfl ?_
        | refine r_built0 tab_ok rfl rfl rfl rfl rfl rfl rfl ?_
        | refine r_built tab_ok rfl rfl rfl rfl rfl rfl rfl rfl rfl ?_
        | refine r_range tab_ok rfl rfl rfl rfl rfl rfl rfl ?_
        | refine r_next rfl rfl rfl rfl (by assumption) rfl rfl rfl ?_
        | refine r_next_end rfl rfl rfl rfl (by assumption) rfl rfl rfl ?_
        | refine r_nilck rfl rfl rfl rfl rfl rfl rfl ?_
        | refine r_rstr tab_ok rfl rfl rfl rfl rfl rfl rfl rfl ?_
        | refine r_rsstr tab_ok rfl rfl rfl rfl rfl rfl rfl rfl rfl rfl ?_
        | refine r_bstr' tab_ok rfl rfl rfl rfl rfl rfl rfl rfl rfl ?_
        | refine r_rowstr tab_ok rfl rfl rfl rfl rfl rfl rfl rfl rfl rfl ?_
        | refine r_strd tab_ok rfl rfl rfl rfl rfl rfl (by omega) rfl rfl rfl ?_
        | refine r_idxr tab_ok rfl rfl rfl rfl rfl rfl rfl rfl (by first | exact ⟨by omega, by omega⟩ | (simp; omega)) rfl ?_
        | refine r_lde tab_ok rfl rfl rfl rfl rfl (by omega) rfl rfl rfl rfl ?_
        | refine r_idxr_cnd tab_ok rfl rfl rfl rfl rfl rfl rfl rfl (by first | exact fun _ => rfl | exact cs1 | exact cs2) rfl rfl (by first | (intro _; exact ⟨by omega, by omega⟩) | (intro h; simp at h ⊢; omega)) rfl ?_
        | refine r_lde_cnd tab_ok rfl rfl rfl rfl rfl rfl rfl (by first | exact fun _ => rfl | exact cs1 | exact cs2) (by omega) rfl rfl rfl rfl ?_
        | refine r_cut tab_ok rfl rfl rfl rfl rfl rfl rfl rfl (by first | exact ⟨by simp, by simp; omega, by simp⟩ | (simp; omega)) rfl ?_
        | refine r_append tab_ok rfl rfl rfl rfl rfl rfl rfl rfl rfl (by first | omega | (simp; omega)) rfl ?_
        | refine r_append_nil tab_ok rfl rfl rfl rfl rfl rfl rfl rfl (by first | omega | (simp; omega)) rfl ?_)
      | refine ret1 (by first | exact .inl rfl | exact .inr rfl) rfl rfl rfl ?_
      | refine ret1_row (by first | exact .inl rfl | exact .inr rfl) rfl rfl rfl ?_
      | refine ret2 (by first | exact .inl rfl | exact .inr rfl) rfl rfl rfl rfl ?_ ?_
      | refine retM1 (by first | exact .inl rfl | exact .inr rfl) rfl rfl rfl rfl rfl ?_
      | exact retM0 (by first | exact .inl rfl | exact .inr rfl) rfl rfl rfl
      | refine awp_cond_t rfl ?_
      | refine awp_cond_f rfl ?_)
    refine awp_cond_p rfl (fun hlt => ?_) (fun hge => ?_)
    · repeat (first
        | refine awp_seq ?_
        | refine thenA_normal ?_
        | refine awp_block ?_
        | refine a_region ?_
        | refine a_draw1 mixed_ok (by kernel_rfl) ?_
        | refine awp_ret ?_
        | refine awp_exit ?_
        | refine thenA_exit ?_
        | refine thenA_ret ?_
        | refine blockA_normal ?_
        | refine blockA_ret ?_
        | refine blockA_hit rfl ?_
        | refine blockA_miss rfl ?_
        | refine awp_skip ?_
        | refine r_done ?_
        | refine r_done' ?_
        | (refine r_id ?_; first
          | refine r_len tab_ok rfl rfl rfl rfl rfl rfl rfl ?_
          | refine r_ev tab_ok rfl rfl rfl rfl (by first | exact trivial | exact ⟨by omega, by omega⟩ | omega | exact ⟨by omega, by omega, by omega, by omega⟩ | exact Nat.le_of_ble_eq_true rfl) rfl ?_
          | refine r_ld tab_ok rfl rfl rfl rfl rfl ?_
          | refine r_idx tab_ok rfl rfl rfl rfl rfl rfl rfl (by first | exact ⟨by omega, by omega⟩ | (simp; omega)) rfl rfl ?_
          | refine r_idxd tab_ok rfl rfl rfl rfl rfl rfl rfl (by decide) rfl rfl rfl ?_
          | refine r_wr tab_ok rfl rfl rfl rfl rfl ?_
          | refine r_st tab_ok rfl rfl rfl rfl ?_
          | refine r_len_cnd tab_ok rfl rfl rfl rfl rfl rfl (by first | exact fun _ => rfl | exact cs1) rfl rfl rfl ?_
          | refine r_ev_cnd tab_ok rfl rfl rfl rfl rfl rfl (by first | exact fun _ => rfl | exact cs1 | exact cs2 | exact cs3) (by first | exact fun _ => trivial | (intro h; simp at h; first | exact ⟨by omega, by omega⟩ | omega)) rfl ?_
          | refine r_ld_cnd tab_ok rfl rfl rfl rfl rfl rfl (by first | exact fun _ => rfl | exact cs1 | exact cs2 | exact cs3) rfl ?_
          | refine r_idx_cnd tab_ok rfl rfl rfl rfl rfl rfl rfl (by first | exact fun _ => rfl | exact cs1 | exact cs2) rfl rfl (by exact ⟨by omega, by omega⟩) rfl rfl ?_
          | refine r_idx_cnd' tab_ok rfl rfl rfl rfl rfl rfl rfl (by first | exact fun _ => rfl | exact cs1 | exact cs2) rfl rfl (by intro h; simp at h; exact ⟨by omega, by omega⟩) rfl rfl ?_
          | refine r_and_cnd rfl rfl rfl rfl rfl rfl rfl rfl rfl rfl ?_
          | refine r_or_cnd rfl rfl rfl rfl rfl rfl rfl rfl rfl rfl ?_
          | refine r_or rfl rfl rfl rfl rfl rfl rfl rfl ?_
          | refine r_and rfl rfl rfl rfl rfl rfl rfl rfl ?_
          | refine r_pick_t rfl rfl rfl rfl rfl rfl rfl ?_
          | refine r_pick_f rfl rfl rfl rfl rfl rfl rfl ?_
          | refine r_off rfl rfl rfl rfl rfl rfl ?_
          | refine r_len_on tab_ok rfl rfl rfl rfl rfl rfl rfl rfl rfl ?_
          | refine r_ev_on tab_ok rfl rfl rfl rfl rfl rfl (by first | exact trivial | exact ⟨by omega, by omega⟩ | omega) rfl ?_
          | refine r_ld_on tab_ok rfl rfl rfl rfl rfl rfl rfl ?_
          | refine r_build tab_ok rfl rfl rfl rfl rfl rfl ?_
          | refine r_bstr tab_ok rfl rfl rfl rfl rfl rfl rfl rfl rfl rfl ?_
          | refine r_build_cnd tab_ok rfl rfl rfl rfl rfl (by first | exact fun _ => rfl | exact cs1) rfl rfl rfl ?_
          | refine r_built_cnd tab_ok rfl rfl rfl rfl rfl rfl rfl rfl (by first | exact fun _ => rfl | exact cs1) rfl rfl rfl ?_
          | refine r_rem rfl rfl rfl rfl rfl rfl (by omega) rfl ?_
          | refine r_built0 tab_ok rfl rfl rfl rfl rfl rfl rfl ?_
          | refine r_built tab_ok rfl rfl rfl rfl rfl rfl rfl rfl rfl ?_
          | refine r_range tab_ok rfl rfl rfl rfl rfl rfl rfl ?_
          | refine r_next rfl rfl rfl rfl (by assumption) rfl rfl rfl ?_
          | refine r_next_end rfl rfl rfl rfl (by assumption) rfl rfl rfl ?_
          | refine r_nilck rfl rfl rfl rfl rfl rfl rfl ?_
          | refine r_rstr tab_ok rfl rfl rfl rfl rfl rfl rfl rfl ?_
          | refine r_rsstr tab_ok rfl rfl rfl rfl rfl rfl rfl rfl rfl rfl ?_
          | refine r_bstr' tab_ok rfl rfl rfl rfl rfl rfl rfl rfl rfl ?_
          | refine r_rowstr tab_ok rfl rfl rfl rfl rfl rfl rfl rfl rfl rfl ?_
          | refine r_strd tab_ok rfl rfl rfl rfl rfl rfl (by omega) rfl rfl rfl ?_
          | refine r_idxr tab_ok rfl rfl rfl rfl rfl rfl rfl rfl (by first | exact ⟨by omega, by omega⟩ | (simp; omega)) rfl ?_
          | refine r_lde tab_ok rfl rfl rfl rfl rfl (by omega) rfl rfl rfl rfl ?_
          | refine r_idxr_cnd tab_ok rfl rfl rfl rfl rfl rfl rfl rfl (by first | exact fun _ => rfl | exact cs1 | exact cs2) rfl rfl (by first | (intro _; exact ⟨by omega, by omega⟩) | (intro h; simp at h ⊢; omega)) rfl ?_
          | refine r_lde_cnd tab_ok rfl rfl rfl rfl rfl rfl rfl (by first | exact fun _ => rfl | exact cs1 | exact cs2) (by omega) rfl rfl rfl rfl ?_
          | refine r_cut tab_ok rfl rfl rfl rfl rfl rfl rfl rfl (by first | exact ⟨by simp, by simp; omega, by simp⟩ | (simp; omega)) rfl ?_
          | refine r_append tab_ok rfl rfl rfl rfl rfl rfl rfl rfl rfl (by first | omega | (simp; omega)) rfl ?_
          | refine r_append_nil tab_ok rfl rfl rfl rfl rfl rfl rfl rfl (by first | omega | (simp; omega)) rfl ?_)
        | refine ret1 (by first | exact .inl rfl | exact .inr rfl) rfl rfl rfl ?_
        | refine ret1_row (by first | exact .inl rfl | exact .inr rfl) rfl rfl rfl ?_
        | refine ret2 (by first | exact .inl rfl | exact .inr rfl) rfl rfl rfl rfl ?_ ?_
        | refine retM1 (by first | exact .inl rfl | exact .inr rfl) rfl rfl rfl rfl rfl ?_
        | exact retM0 (by first | exact .inl rfl | exact .inr rfl) rfl rfl rfl
        | refine awp_cond_t rfl ?_
        | refine awp_cond_f rfl ?_)
      refine ⟨⟨i + 1, by omega⟩, by dsimp only; omega, ?_⟩
      dsimp only
      have hrow : (List.range (i + 1)).map rawN = (List.range i).map rawN ++ [rawN i] := by rw [List.range_succ, List.map_append]; rfl
      rw [hrow]
      exact fits_conv (by repeat' first | exact trivial | exact rfl | (rw [List.map_append]; first | done | rfl) | exact c_sub rfl (Sub.refl _) rfl | exact c_nil rfl rfl | exact c_thaw rfl rfl rfl | exact c_row rfl rfl rfl | exact c_row rfl rfl (by rw [List.map_append]; first | done | rfl) | exact c_ptr rfl rfl rfl rfl | exact Or.inl ⟨c_sub rfl (Sub.refl _) rfl, c_ptr rfl rfl rfl rfl⟩ | exact c_alt rfl rfl rfl rfl | exact c_ro rfl rfl | exact c_eo rfl rfl | exact c_sub rfl (Sub.altl _ _) rfl | refine ⟨_, _, rfl, ?_, ?_⟩ | apply And.intro) (by repeat' first | exact trivial | exact rfl | (rw [List.map_append]; first | done | rfl) | exact c_sub rfl (Sub.refl _) rfl | exact c_nil rfl rfl | exact c_thaw rfl rfl rfl | exact c_row rfl rfl rfl | exact c_row rfl rfl (by rw [List.map_append]; first | done | rfl) | exact c_ptr rfl rfl rfl rfl | exact Or.inl ⟨c_sub rfl (Sub.refl _) rfl, c_ptr rfl rfl rfl rfl⟩ | exact c_alt rfl rfl rfl rfl | exact c_ro rfl rfl | exact c_eo rfl rfl | exact c_sub rfl (Sub.altl _ _) rfl | refine ⟨_, _, rfl, ?_, ?_⟩ | apply And.intro)
    · have : i = N := by omega
      subst this
      repeat (first
        | refine awp_seq ?_
        | refine thenA_normal ?_
        | refine awp_block ?_
        | refine a_region ?_
        | refine a_draw1 mixed_ok (by kernel_rfl) ?_
        | refine awp_ret ?_
        | refine awp_exit ?_
        | refine thenA_exit ?_
        | refine thenA_ret ?_
        | refine blockA_normal ?_
        | refine blockA_ret ?_
        | refine blockA_hit rfl ?_
        | refine blockA_miss rfl ?_
        | refine awp_skip ?_
        | refine r_done ?_
        | refine r_done' ?_
        | (refine r_id ?_; first
          | refine r_len tab_ok rfl rfl rfl rfl rfl rfl rfl ?_
          | refine r_ev tab_ok rfl rfl rfl rfl (by first | exact trivial | exact ⟨by omega, by omega⟩ | omega | exact ⟨by omega, by omega, by omega, by omega⟩ | exact Nat.le_of_ble_eq_true rfl) rfl ?_
          | refine r_ld tab_ok rfl rfl rfl rfl rfl ?_
          | refine r_idx tab_ok rfl rfl rfl rfl rfl rfl rfl (by first | exact ⟨by omega, by omega⟩ | (simp; omega)) rfl rfl ?_
          | refine r_idxd tab_ok rfl rfl rfl rfl rfl rfl rfl (by decide) rfl rfl rfl ?_
          | refine r_wr tab_ok rfl rfl rfl rfl rfl ?_
          | refine r_st tab_ok rfl rfl rfl rfl ?_
          | refine r_len_cnd tab_ok rfl rfl rfl rfl rfl rfl (by first | exact fun _ => rfl | exact cs1) rfl rfl rfl ?_
          | refine r_ev_cnd tab_ok rfl rfl rfl rfl rfl rfl (by first | exact fun _ => rfl | exact cs1 | exact cs2 | exact cs3) (by first | exact fun _ => trivial | (intro h; simp at h; first | exact ⟨by omega, by omega⟩ | omega)) rfl ?_
          | refine r_ld_cnd tab_ok rfl rfl rfl rfl rfl rfl (by first | exact fun _ => rfl | exact cs1 | exact cs2 | exact cs3) rfl ?_
          | refine r_idx_cnd tab_ok rfl rfl rfl rfl rfl rfl rfl (by first | exact fun _ => rfl | exact cs1 | exact cs2) rfl rfl (by exact ⟨by omega, by omega⟩) rfl rfl ?_
          | refine r_idx_cnd' tab_ok rfl rfl rfl rfl rfl rfl rfl (by first | exact fun _ => rfl | exact cs1 | exact cs2) rfl rfl (by intro h; simp at h; exact ⟨by omega, by omega⟩) rfl rfl ?_
          | refine r_and_cnd rfl rfl rfl rfl rfl rfl rfl rfl rfl rfl ?_
          | refine r_or_cnd rfl rfl rfl rfl rfl rfl rfl rfl rfl rfl ?_
          | refine r_or rfl rfl rfl rfl rfl rfl rfl rfl ?_
          | refine r_and rfl rfl rfl rfl rfl rfl rfl rfl ?_
          | refine r_pick_t rfl rfl rfl rfl rfl rfl rfl ?_
          | refine r_pick_f rfl rfl rfl rfl rfl rfl rfl ?_
          | refine r_off rfl rfl rfl rfl rfl rfl ?_
          | refine r_len_on tab_ok rfl rfl rfl rfl rfl rfl rfl rfl rfl ?_
          | refine r_ev_on tab_ok rfl rfl rfl rfl rfl rfl (by first | exact trivial | exact ⟨by omega, by omega⟩ | omega) rfl ?_
          | refine r_ld_on tab_ok rfl rfl rfl rfl rfl rfl rfl ?_
          | refine r_build tab_ok rfl rfl rfl rfl rfl rfl ?_
          | refine r_bstr tab_ok rfl rfl rfl rfl rfl rfl rfl rfl rfl rfl ?_
          | refine r_build_cnd tab_ok rfl rfl rfl rfl rfl (by first | exact fun _ => rfl | exact cs1) rfl rfl rfl ?_
          | refine r_built_cnd tab_ok rfl rfl rfl rfl rfl rfl rfl rfl (by first | exact fun _ => rfl | exact cs1) rfl rfl rfl ?_
          | refine r_rem rfl rfl rfl rfl rfl rfl (by omega) rfl ?_
          | refine r_built0 tab_ok rfl rfl rfl rfl rfl rfl rfl ?_
          | refine r_built tab_ok rfl rfl rfl rfl rfl rfl rfl rfl rfl ?_
          | refine r_range tab_ok rfl rfl rfl rfl rfl rfl rfl ?_
          | refine r_next rfl rfl rfl rfl (by assumption) rfl rfl rfl ?_
          | refine r_next_end rfl rfl rfl rfl (by assumption) rfl rfl rfl ?_
          | refine r_nilck rfl rfl rfl rfl rfl rfl rfl ?_
          | refine r_rstr tab_ok rfl rfl rfl rfl rfl rfl rfl rfl ?_
          | refine r_rsstr tab_ok rfl rfl rfl rfl rfl rfl rfl rfl rfl rfl ?_
          | refine r_bstr' tab_ok rfl rfl rfl rfl rfl rfl rfl rfl rfl ?_
          | refine r_rowstr tab_ok rfl rfl rfl rfl rfl rfl rfl rfl rfl rfl ?_
          | refine r_strd tab_ok rfl rfl rfl rfl rfl rfl (by omega) rfl rfl rfl ?_
          | refine r_idxr tab_ok rfl rfl rfl rfl rfl rfl rfl rfl (by first | exact ⟨by omega, by omega⟩ | (simp; omega)) rfl ?_
          | refine r_lde tab_ok rfl rfl rfl rfl rfl (by omega) rfl rfl rfl rfl ?_
          | refine r_idxr_cnd tab_ok rfl rfl rfl rfl rfl rfl rfl rfl (by first | exact fun _ => rfl | exact cs1 | exact cs2) rfl rfl (by first | (intro _; exact ⟨by omega, by omega⟩) | (intro h; simp at h ⊢; omega)) rfl ?_
          | refine r_lde_cnd tab_ok rfl rfl rfl rfl rfl rfl rfl (by first | exact fun _ => rfl | exact cs1 | exact cs2) (by omega) rfl rfl rfl rfl ?_
          | refine r_cut tab_ok rfl rfl rfl rfl rfl rfl rfl rfl (by first | exact ⟨by simp, by simp; omega, by simp⟩ | (simp; omega)) rfl ?_
          | refine r_append tab_ok rfl rfl rfl rfl rfl rfl rfl rfl rfl (by first | omega | (simp; omega)) rfl ?_
          | refine r_append_nil tab_ok rfl rfl rfl rfl rfl rfl rfl rfl (by first | omega | (simp; omega)) rfl ?_)
        | refine ret1 (by first | exact .inl rfl | exact .inr rfl) rfl rfl rfl ?_
        | refine ret1_row (by first | exact .inl rfl | exact .inr rfl) rfl rfl rfl ?_
        | refine ret2 (by first | exact .inl rfl | exact .inr rfl) rfl rfl rfl rfl ?_ ?_
        | refine retM1 (by first | exact .inl rfl | exact .inr rfl) rfl rfl rfl rfl rfl ?_
        | exact retM0 (by first | exact .inl rfl | exact .inr rfl) rfl rfl rfl
        | refine awp_cond_t rfl ?_
        | refine awp_cond_f rfl ?_)
      refine awp_cond_p rfl (fun hpos => ?_) (fun hneg => ?_)
      · obtain ⟨m, rfl⟩ : ∃ m, i = m + 1 := ⟨i - 1, by omega⟩
        have hrow : (List.range (m + 1)).map rawN = (List.range m).map rawN ++ [rawN m] := by rw [List.range_succ, List.map_append]; rfl
        rw [hrow]
        refine awp_fits (fits_open (i := 0) rfl) ?_
        repeat (first
          | refine awp_seq ?_
          | refine thenA_normal ?_
          | refine awp_block ?_
          | refine a_region ?_
          | refine a_draw1 mixed_ok (by kernel_rfl) ?_
          | refine awp_ret ?_
          | refine awp_exit ?_
          | refine thenA_exit ?_
          | refine thenA_ret ?_
          | refine blockA_normal ?_
          | refine blockA_ret ?_
          | refine blockA_hit rfl ?_
          | refine blockA_miss rfl ?_
          | refine awp_skip ?_
          | refine r_done ?_
          | refine r_done' ?_
          | (refine r_id ?_; first
            | refine r_len tab_ok rfl rfl rfl rfl rfl rfl rfl ?_
            | refine r_ev tab_ok rfl rfl rfl rfl (by first | exact trivial | exact ⟨by omega, by omega⟩ | omega | exact ⟨by omega, by omega, by omega, by omega⟩ | exact Nat.le_of_ble_eq_true rfl) rfl ?_
            | refine r_ld tab_ok rfl rfl rfl rfl rfl ?_
            | refine r_idx tab_ok rfl rfl rfl rfl rfl rfl rfl (by first | exact ⟨by omega, by omega⟩ | (simp; omega)) rfl rfl ?_
            | refine r_idxd tab_ok rfl rfl rfl rfl rfl rfl rfl (by decide) rfl rfl rfl ?_
            | refine r_wr tab_ok rfl rfl rfl rfl rfl ?_
            | refine r_st tab_ok rfl rfl rfl rfl ?_
            | refine r_len_cnd tab_ok rfl rfl rfl rfl rfl rfl (by first | exact fun _ => rfl | exact cs1) rfl rfl rfl ?_
            | refine r_ev_cnd tab_ok rfl rfl rfl rfl rfl rfl (by first | exact fun _ => rfl | exact cs1 | exact cs2 | exact cs3) (by first | exact fun _ => trivial | (intro h; simp at h; first | exact ⟨by omega, by omega⟩ | omega)) rfl ?_
            | refine r_ld_cnd tab_ok rfl rfl rfl rfl rfl rfl (by first | exact fun _ => rfl | exact cs1 | exact cs2 | exact cs3) rfl ?_
            | refine r_idx_cnd tab_ok rfl rfl rfl rfl rfl rfl rfl (by first | exact fun _ => rfl | exact cs1 | exact cs2) rfl rfl (by exact ⟨by omega, by omega⟩) rfl rfl ?_
            | refine r_idx_cnd' tab_ok rfl rfl rfl rfl rfl rfl rfl (by first | exact fun _ => rfl | exact cs1 | exact cs2) rfl rfl (by intro h; simp at h; exact ⟨by omega, by omega⟩) rfl rfl ?_
            | refine r_and_cnd rfl rfl rfl rfl rfl rfl rfl rfl rfl rfl ?_
            | refine r_or_cnd rfl rfl rfl rfl rfl rfl rfl rfl rfl rfl ?_
            | refine r_or rfl rfl rfl rfl rfl rfl rfl rfl ?_
            | refine r_and rfl rfl rfl rfl rfl rfl rfl rfl ?_
            | refine r_pick_t rfl rfl rfl rfl rfl rfl rfl ?_
            | refine r_pick_f rfl rfl rfl rfl rfl rfl rfl ?_
            | refine r_off rfl rfl rfl rfl rfl rfl ?_
            | refine r_len_on tab_ok rfl rfl rfl rfl rfl rfl rfl rfl rfl ?_
            | refine r_ev_on tab_ok rfl rfl rfl rfl rfl rfl (by first | exact trivial | exact ⟨by omega, by omega⟩ | omega) rfl ?_
            | refine r_ld_on tab_ok rfl rfl rfl rfl rfl rfl rfl ?_
            | refine r_build tab_ok rfl rfl rfl rfl rfl rfl ?_
            | refine r_bstr tab_ok rfl rfl rfl rfl rfl rfl rfl rfl rfl rfl ?_
            | refine r_build_cnd tab_ok rfl rfl rfl rfl rfl (by first | exact fun _ => rfl | exact cs1) rfl rfl rfl ?_
            | refine r_built_cnd tab_ok rfl rfl rfl rfl rfl rfl rfl rfl (by first | exact fun _ => rfl | exact cs1) rfl rfl rfl ?_
            | refine r_rem rfl rfl rfl rfl rfl rfl (by omega) rfl ?_
            | refine r_built0 tab_ok rfl rfl rfl rfl rfl rfl rfl ?_
            | refine r_built tab_ok rfl rfl rfl rfl rfl rfl rfl rfl rfl ?_
            | refine r_range tab_ok rfl rfl rfl rfl rfl rfl rfl ?_
            | refine r_next rfl rfl rfl rfl (by assumption) rfl rfl rfl ?_
            | refine r_next_end rfl rfl rfl rfl (by assumption) rfl rfl rfl ?_
            | refine r_nilck rfl rfl rfl rfl rfl rfl rfl ?_
            | refine r_rstr tab_ok rfl rfl rfl rfl rfl rfl rfl rfl ?_
            | refine r_rsstr tab_ok rfl rfl rfl rfl rfl rfl rfl rfl rfl rfl ?_
            | refine r_bstr' tab_ok rfl rfl rfl rfl rfl rfl rfl rfl rfl ?_
            | refine r_rowstr tab_ok rfl rfl rfl rfl rfl rfl rfl rfl rfl rfl ?_
            | refine r_strd tab_ok rfl rfl rfl rfl rfl rfl (by omega) rfl rfl rfl ?_
            | refine r_idxr tab_ok rfl rfl rfl rfl rfl rfl rfl rfl (by first | exact ⟨by omega, by omega⟩ | (simp; omega)) rfl ?_
            | refine r_lde tab_ok rfl rfl rfl rfl rfl (by omega) rfl rfl rfl rfl ?_
            | refine r_idxr_cnd tab_ok rfl rfl rfl rfl rfl rfl rfl rfl (by first | exact fun _ => rfl | exact cs1 | exact cs2) rfl rfl (by first | (intro _; exact ⟨by omega, by omega⟩) | (intro h; simp at h ⊢; omega)) rfl ?_
            | refine r_lde_cnd tab_ok rfl rfl rfl rfl rfl rfl rfl (by first | exact fun _ => rfl | exact cs1 | exact cs2) (by omega) rfl rfl rfl rfl ?_
            | refine r_cut tab_ok rfl rfl rfl rfl rfl rfl rfl rfl (by first | exact ⟨by simp, by simp; omega, by simp⟩ | (simp; omega)) rfl ?_
            | refine r_append tab_ok rfl rfl rfl rfl rfl rfl rfl rfl rfl (by first | omega | (simp; omega)) rfl ?_
            | refine r_append_nil tab_ok rfl rfl rfl rfl rfl rfl rfl rfl (by first | omega | (simp; omega)) rfl ?_)
          | refine ret1 (by first | exact .inl rfl | exact .inr rfl) rfl rfl rfl ?_
          | refine ret1_row (by first | exact .inl rfl | exact .inr rfl) rfl rfl rfl ?_
          | refine ret2 (by first | exact .inl rfl | exact .inr rfl) rfl rfl rfl rfl ?_ ?_
          | refine retM1 (by first | exact .inl rfl | exact .inr rfl) rfl rfl rfl rfl rfl ?_
          | exact retM0 (by first | exact .inl rfl | exact .inr rfl) rfl rfl rfl
          | refine awp_cond_t rfl ?_
          | refine awp_cond_f rfl ?_)
        refine r_idx_o tab_ok rfl rfl rfl rfl rfl rfl rfl rfl (by omega) (by simp) rfl ?_
        repeat (first
          | refine awp_seq ?_
          | refine thenA_normal ?_
          | refine awp_block ?_
          | refine a_region ?_
          | refine awp_ret ?_
          | refine awp_exit ?_
          | refine thenA_exit ?_
          | refine thenA_ret ?_
          | refine blockA_normal ?_
          | refine blockA_ret ?_
          | refine blockA_hit rfl ?_
          | refine blockA_miss rfl ?_
          | refine awp_skip ?_
          | refine r_done ?_
          | refine r_done' ?_
          | (refine r_id ?_; first
            | refine r_len tab_ok rfl rfl rfl rfl rfl rfl rfl ?_
            | refine r_ev tab_ok rfl rfl rfl rfl (by first | exact trivial | exact ⟨by omega, by omega⟩ | omega | exact ⟨by omega, by omega, by omega, by omega⟩ | exact Nat.le_of_ble_eq_true rfl) rfl ?_
            | refine r_ld tab_ok rfl rfl rfl rfl rfl ?_
            | refine r_idx tab_ok rfl rfl rfl rfl rfl rfl rfl (by first | exact ⟨by omega, by omega⟩ | (simp; omega)) rfl rfl ?_
            | refine r_idxd tab_ok rfl rfl rfl rfl rfl rfl rfl (by decide) rfl rfl rfl ?_
            | refine r_wr tab_ok rfl rfl rfl rfl rfl ?_
            | refine r_st tab_ok rfl rfl rfl rfl ?_
            | refine r_len_cnd tab_ok rfl rfl rfl rfl rfl rfl (by first | exact fun _ => rfl | exact cs1) rfl rfl rfl ?_
            | refine r_ev_cnd tab_ok rfl rfl rfl rfl rfl rfl (by first | exact fun _ => rfl | exact cs1 | exact cs2 | exact cs3) (by first | exact fun _ => trivial | (intro h; simp at h; first | exact ⟨by omega, by omega⟩ | omega)) rfl ?_
            | refine r_ld_cnd tab_ok rfl rfl rfl rfl rfl rfl (by first | exact fun _ => rfl | exact cs1 | exact cs2 | exact cs3) rfl ?_
            | refine r_idx_cnd tab_ok rfl rfl rfl rfl rfl rfl rfl (by first | exact fun _ => rfl | exact cs1 | exact cs2) rfl rfl (by exact ⟨by omega, by omega⟩) rfl rfl ?_
            | refine r_idx_cnd' tab_ok rfl rfl rfl rfl rfl rfl rfl (by first | exact fun _ => rfl | exact cs1 | exact cs2) rfl rfl (by intro h; simp at h; exact ⟨by omega, by omega⟩) rfl rfl ?_
            | refine r_and_cnd rfl rfl rfl rfl rfl rfl rfl rfl rfl rfl ?_
            | refine r_or_cnd rfl rfl rfl rfl rfl rfl rfl rfl rfl rfl ?_
            | refine r_or rfl rfl rfl rfl rfl rfl rfl rfl ?_
            | refine r_and rfl rfl rfl rfl rfl rfl rfl rfl ?_
            | refine r_pick_t rfl rfl rfl rfl rfl rfl rfl ?_
            | refine r_pick_f rfl rfl rfl rfl rfl rfl rfl ?_
            | refine r_off rfl rfl rfl rfl rfl rfl ?_
            | refine r_len_on tab_ok rfl rfl rfl rfl rfl rfl rfl rfl rfl ?_
            | refine r_ev_on tab_ok rfl rfl rfl rfl rfl rfl (by first | exact trivial | exact ⟨by omega, by omega⟩ | omega) rfl ?_
            | refine r_ld_on tab_ok rfl rfl rfl rfl rfl rfl rfl ?_
            | refine r_build tab_ok rfl rfl rfl rfl rfl rfl ?_
            | refine r_bstr tab_ok rfl rfl rfl rfl rfl rfl rfl rfl rfl rfl ?_
            | refine r_build_cnd tab_ok rfl rfl rfl rfl rfl (by first | exact fun _ => rfl | exact cs1) rfl rfl rfl ?_
            | refine r_built_cnd tab_ok rfl rfl rfl rfl rfl rfl rfl rfl (by first | exact fun _ => rfl | exact cs1) rfl rfl rfl ?_
            | refine r_rem rfl rfl rfl rfl rfl rfl (by omega) rfl ?_
            | refine r_built0 tab_ok rfl rfl rfl rfl rfl rfl rfl ?_
            | refine r_built tab_ok rfl rfl rfl rfl rfl rfl rfl rfl rfl ?_
            | refine r_range tab_ok rfl rfl rfl rfl rfl rfl rfl ?_
            | refine r_next rfl rfl rfl rfl (by assumption) rfl rfl rfl ?_
            | refine r_next_end rfl rfl rfl rfl (by assumption) rfl rfl rfl ?_
            | refine r_nilck rfl rfl rfl rfl rfl rfl rfl ?_
            | refine r_rstr tab_ok rfl rfl rfl rfl rfl rfl rfl rfl ?_
            | refine r_rsstr tab_ok rfl rfl rfl rfl rfl rfl rfl rfl rfl rfl ?_
            | refine r_bstr' tab_ok rfl rfl rfl rfl rfl rfl rfl rfl rfl ?_
            | refine r_rowstr tab_ok rfl rfl rfl rfl rfl rfl rfl rfl rfl rfl ?_
            | refine r_strd tab_ok rfl rfl rfl rfl rfl rfl (by omega) rfl rfl rfl ?_
            | refine r_idxr tab_ok rfl rfl rfl rfl rfl rfl rfl rfl (by first | exact ⟨by omega, by omega⟩ | (simp; omega)) rfl ?_
            | refine r_lde tab_ok rfl rfl rfl rfl rfl (by omega) rfl rfl rfl rfl ?_
            | refine r_idxr_cnd tab_ok rfl rfl rfl rfl rfl rfl rfl rfl (by first | exact fun _ => rfl | exact cs1 | exact cs2) rfl rfl (by first | (intro _; exact ⟨by omega, by omega⟩) | (intro h; simp at h ⊢; omega)) rfl ?_
            | refine r_lde_cnd tab_ok rfl rfl rfl rfl rfl rfl rfl (by first | exact fun _ => rfl | exact cs1 | exact cs2) (by omega) rfl rfl rfl rfl ?_
            | refine r_cut tab_ok rfl rfl rfl rfl rfl rfl rfl rfl (by first | exact ⟨by simp, by simp; omega, by simp⟩ | (simp; omega)) rfl ?_
            | refine r_append tab_ok rfl rfl rfl rfl rfl rfl rfl rfl rfl (by first | omega | (simp; omega)) rfl ?_
            | refine r_append_nil tab_ok rfl rfl rfl rfl rfl rfl rfl rfl (by first | omega | (simp; omega)) rfl ?_)
          | refine ret1 (by first | exact .inl rfl | exact .inr rfl) rfl rfl rfl ?_
          | refine ret1_row (by first | exact .inl rfl | exact .inr rfl) rfl rfl rfl ?_
          | refine ret2 (by first | exact .inl rfl | exact .inr rfl) rfl rfl rfl rfl ?_ ?_
          | refine retM1 (by first | exact .inl rfl | exact .inr rfl) rfl rfl rfl rfl rfl ?_
          | exact retM0 (by first | exact .inl rfl | exact .inr rfl) rfl rfl rfl
          | refine awp_cond_t rfl ?_
          | refine awp_cond_f rfl ?_)
        refine a_draw mixed_ok [0,0,0,0,0,0,0,0,1,1,2,1,1,2] (by kernel_rfl) ?_
        repeat (first
          | refine awp_seq ?_
          | refine thenA_normal ?_
          | refine awp_block ?_
          | refine a_region ?_
          | refine awp_ret ?_
          | refine awp_exit ?_
          | refine thenA_exit ?_
          | refine thenA_ret ?_
          | refine blockA_normal ?_
          | refine blockA_ret ?_
          | refine blockA_hit rfl ?_
          | refine blockA_miss rfl ?_
          | refine awp_skip ?_
          | refine r_done ?_
          | refine r_done' ?_
          | (refine r_id ?_; first
            | refine r_len tab_ok rfl rfl rfl rfl rfl rfl rfl ?_
            | refine r_ev tab_ok rfl rfl rfl rfl (by first | exact trivial | exact ⟨by omega, by omega⟩ | omega | exact ⟨by omega, by omega, by omega, by omega⟩ | exact Nat.le_of_ble_eq_true rfl) rfl ?_
            | refine r_ld tab_ok rfl rfl rfl rfl rfl ?_
            | refine r_idx tab_ok rfl rfl rfl rfl rfl rfl rfl (by first | exact ⟨by omega, by omega⟩ | (simp; omega)) rfl rfl ?_
            | refine r_idxd tab_ok rfl rfl rfl rfl rfl rfl rfl (by decide) rfl rfl rfl ?_
            | refine r_wr tab_ok rfl rfl rfl rfl rfl ?_
            | refine r_st tab_ok rfl rfl rfl rfl ?_
            | refine r_len_cnd tab_ok rfl rfl rfl rfl rfl rfl (by first | exact fun _ => rfl | exact cs1) rfl rfl rfl ?_
            | refine r_ev_cnd tab_ok rfl rfl rfl rfl rfl rfl (by first | exact fun _ => rfl | exact cs1 | exact cs2 | exact cs3) (by first | exact fun _ => trivial | (intro h; simp at h; first | exact ⟨by omega, by omega⟩ | omega)) rfl ?_
            | refine r_ld_cnd tab_ok rfl rfl rfl rfl rfl rfl (by first | exact fun _ => rfl | exact cs1 | exact cs2 | exact cs3) rfl ?_
            | refine r_idx_cnd tab_ok rfl rfl rfl rfl rfl rfl rfl (by first | exact fun _ => rfl | exact cs1 | exact cs2) rfl rfl (by exact ⟨by omega, by omega⟩) rfl rfl ?_
            | refine r_idx_cnd' tab_ok rfl rfl rfl rfl rfl rfl rfl (by first | exact fun _ => rfl | exact cs1 | exact cs2) rfl rfl (by intro h; simp at h; exact ⟨by omega, by omega⟩) rfl rfl ?_
            | refine r_and_cnd rfl rfl rfl rfl rfl rfl rfl rfl rfl rfl ?_
            | refine r_or_cnd rfl rfl rfl rfl rfl rfl rfl rfl rfl rfl ?_
            | refine r_or rfl rfl rfl rfl rfl rfl rfl rfl ?_
            | refine r_and rfl rfl rfl rfl rfl rfl rfl rfl ?_
            | refine r_pick_t rfl rfl rfl rfl rfl rfl rfl ?_
            | refine r_pick_f rfl rfl rfl rfl rfl rfl rfl ?_
            | refine r_off rfl rfl rfl rfl rfl rfl ?_
            | refine r_len_on tab_ok rfl rfl rfl rfl rfl rfl rfl rfl rfl ?_
            | refine r_ev_on tab_ok rfl rfl rfl rfl rfl rfl (by first | exact trivial | exact ⟨by omega, by omega⟩ | omega) rfl ?_
            | refine r_ld_on tab_ok rfl rfl rfl rfl rfl rfl rfl ?_
            | refine r_build tab_ok rfl rfl rfl rfl rfl rfl ?_
            | refine r_bstr tab_ok rfl rfl rfl rfl rfl rfl rfl rfl rfl rfl ?_
            | refine r_build_cnd tab_ok rfl rfl rfl rfl rfl (by first | exact fun _ => rfl | exact cs1) rfl rfl rfl ?_
            | refine r_built_cnd tab_ok rfl rfl rfl rfl rfl rfl rfl rfl (by first | exact fun _ => rfl | exact cs1) rfl rfl rfl ?_
            | refine r_rem rfl rfl rfl rfl rfl rfl (by omega) rfl ?_
            | refine r_built0 tab_ok rfl rfl rfl rfl rfl rfl rfl ?_
            | refine r_built tab_ok rfl rfl rfl rfl rfl rfl rfl rfl rfl ?_
            | refine r_range tab_ok rfl rfl rfl rfl rfl rfl rfl ?_
            | refine r_next rfl rfl rfl rfl (by assumption) rfl rfl rfl ?_
            | refine r_next_end rfl rfl rfl rfl (by assumption) rfl rfl rfl ?_
            | refine r_nilck rfl rfl rfl rfl rfl rfl rfl ?_
            | refine r_rstr tab_ok rfl rfl rfl rfl rfl rfl rfl rfl ?_
            | refine r_rsstr tab_ok rfl rfl rfl rfl rfl rfl rfl rfl rfl rfl ?_
            | refine r_bstr' tab_ok rfl rfl rfl rfl rfl rfl rfl rfl rfl ?_
            | refine r_rowstr tab_ok rfl rfl rfl rfl rfl rfl rfl rfl rfl rfl ?_
            | refine r_strd tab_ok rfl rfl rfl rfl rfl rfl (by omega) rfl rfl rfl ?_
            | refine r_idxr tab_ok rfl rfl rfl rfl rfl rfl rfl rfl (by first | exact ⟨by omega, by omega⟩ | (simp; omega)) rfl ?_
            | refine r_lde tab_ok rfl rfl rfl rfl rfl (by omega) rfl rfl rfl rfl ?_
            | refine r_idxr_cnd tab_ok rfl rfl rfl rfl rfl rfl rfl rfl (by first | exact fun _ => rfl | exact cs1 | exact cs2) rfl rfl (by first | (intro _; exact ⟨by omega, by omega⟩) | (intro h; simp at h ⊢; omega)) rfl ?_
            | refine r_lde_cnd tab_ok rfl rfl rfl rfl rfl rfl rfl (by first | exact fun _ => rfl | exact cs1 | exact cs2) (by omega) rfl rfl rfl rfl ?_
            | refine r_cut tab_ok rfl rfl rfl rfl rfl rfl rfl rfl (by first | exact ⟨by simp, by simp; omega, by simp⟩ | (simp; omega)) rfl ?_
            | refine r_append tab_ok rfl rfl rfl rfl rfl rfl rfl rfl rfl (by first | omega | (simp; omega)) rfl ?_
            | refine r_append_nil tab_ok rfl rfl rfl rfl rfl rfl rfl rfl (by first | omega | (simp; omega)) rfl ?_)
          | refine ret1 (by first | exact .inl rfl | exact .inr rfl) rfl rfl rfl ?_
          | refine ret1_row (by first | exact .inl rfl | exact .inr rfl) rfl rfl rfl ?_
          | refine ret2 (by first | exact .inl rfl | exact .inr rfl) rfl rfl rfl rfl ?_ ?_
          | refine retM1 (by first | exact .inl rfl | exact .inr rfl) rfl rfl rfl rfl rfl ?_
          | exact retM0 (by first | exact .inl rfl | exact .inr rfl) rfl rfl rfl
          | refine awp_cond_t rfl ?_
          | refine awp_cond_f rfl ?_)
        refine r_make0 tab_ok (bD 0) rfl rfl rfl rfl rfl htag0 (by show (1 : Int) * tag ≤ _; omega) (by omega) (by decide) rfl (fun _ _ => ⟨rfl, rfl⟩) rfl rfl rfl ?_
        rw [rep_b]
        repeat (first
          | refine awp_seq ?_
          | refine thenA_normal ?_
          | refine awp_block ?_
          | refine a_region ?_
          | refine awp_ret ?_
          | refine awp_exit ?_
          | refine thenA_exit ?_
          | refine thenA_ret ?_
          | refine blockA_normal ?_
          | refine blockA_ret ?_
          | refine blockA_hit rfl ?_
          | refine blockA_miss rfl ?_
          | refine awp_skip ?_
          | refine r_done ?_
          | refine r_done' ?_
          | (refine r_id ?_; first
            | refine r_len tab_ok rfl rfl rfl rfl rfl rfl rfl ?_
            | refine r_ev tab_ok rfl rfl rfl rfl (by first | exact trivial | exact ⟨by omega, by omega⟩ | omega | exact ⟨by omega, by omega, by omega, by omega⟩ | exact Nat.le_of_ble_eq_true rfl) rfl ?_
            | refine r_ld tab_ok rfl rfl rfl rfl rfl ?_
            | refine r_idx tab_ok rfl rfl rfl rfl rfl rfl rfl (by first | exact ⟨by omega, by omega⟩ | (simp; omega)) rfl rfl ?_
            | refine r_idxd tab_ok rfl rfl rfl rfl rfl rfl rfl (by decide) rfl rfl rfl ?_
            | refine r_wr tab_ok rfl rfl rfl rfl rfl ?_
            | refine r_st tab_ok rfl rfl rfl rfl ?_
            | refine r_len_cnd tab_ok rfl rfl rfl rfl rfl rfl (by first | exact fun _ => rfl | exact cs1) rfl rfl rfl ?_
            | refine r_ev_cnd tab_ok rfl rfl rfl rfl rfl rfl (by first | exact fun _ => rfl | exact cs1 | exact cs2 | exact cs3) (by first | exact fun _ => trivial | (intro h; simp at h; first | exact ⟨by omega, by omega⟩ | omega)) rfl ?_
            | refine r_ld_cnd tab_ok rfl rfl rfl rfl rfl rfl (by first | exact fun _ => rfl | exact cs1 | exact cs2 | exact cs3) rfl ?_
            | refine r_idx_cnd tab_ok rfl rfl rfl rfl rfl rfl rfl (by first | exact fun _ => rfl | exact cs1 | exact cs2) rfl rfl (by exact ⟨by omega, by omega⟩) rfl rfl ?_
            | refine r_idx_cnd' tab_ok rfl rfl rfl rfl rfl rfl rfl (by first | exact fun _ => rfl | exact cs1 | exact cs2) rfl rfl (by intro h; simp at h; exact ⟨by omega, by omega⟩) rfl rfl ?_
            | refine r_and_cnd rfl rfl rfl rfl rfl rfl rfl rfl rfl rfl ?_
            | refine r_or_cnd rfl rfl rfl rfl rfl rfl rfl rfl rfl rfl ?_
            | refine r_or rfl rfl rfl rfl rfl rfl rfl rfl ?_
            | refine r_and rfl rfl rfl rfl rfl rfl rfl rfl ?_
            | refine r_pick_t rfl rfl rfl rfl rfl rfl rfl ?_
            | refine r_pick_f rfl rfl rfl rfl rfl rfl rfl ?_
            | refine r_off rfl rfl rfl rfl rfl rfl ?_
            | refine r_len_on tab_ok rfl rfl rfl rfl rfl rfl rfl rfl rfl ?_
            | refine r_ev_on tab_ok rfl rfl rfl rfl rfl rfl (by first | exact trivial | exact ⟨by omega, by omega⟩ | omega) rfl ?_
            | refine r_ld_on tab_ok rfl rfl rfl rfl rfl rfl rfl ?_
            | refine r_build tab_ok rfl rfl rfl rfl rfl rfl ?_
            | refine r_bstr tab_ok rfl rfl rfl rfl rfl rfl rfl rfl rfl rfl ?_
            | refine r_build_cnd tab_ok rfl rfl rfl rfl rfl (by first | exact fun _ => rfl | exact cs1) rfl rfl rfl ?_
            | refine r_built_cnd tab_ok rfl rfl rfl rfl rfl rfl rfl rfl (by first | exact fun _ => rfl | exact cs1) rfl rfl rfl ?_
            | refine r_rem rfl rfl rfl rfl rfl rfl (by omega) rfl ?_
            | refine r_built0 tab_ok rfl rfl rfl rfl rfl rfl rfl ?_
            | refine r_built tab_ok rfl rfl rfl rfl rfl rfl rfl rfl rfl ?_
            | refine r_range tab_ok rfl rfl rfl rfl rfl rfl rfl ?_
            | refine r_next rfl rfl rfl rfl (by assumption) rfl rfl rfl ?_
            | refine r_next_end rfl rfl rfl rfl (by assumption) rfl rfl rfl ?_
            | refine r_nilck rfl rfl rfl rfl rfl rfl rfl ?_
            | refine r_rstr tab_ok rfl rfl rfl rfl rfl rfl rfl rfl ?_
            | refine r_rsstr tab_ok rfl rfl rfl rfl rfl rfl rfl rfl rfl rfl ?_
            | refine r_bstr' tab_ok rfl rfl rfl rfl rfl rfl rfl rfl rfl ?_
            | refine r_rowstr tab_ok rfl rfl rfl rfl rfl rfl rfl rfl rfl rfl ?_
            | refine r_strd tab_ok rfl rfl rfl rfl rfl rfl (by omega) rfl rfl rfl ?_
            | refine r_idxr tab_ok rfl rfl rfl rfl rfl rfl rfl rfl (by first | exact ⟨by omega, by omega⟩ | (simp; omega)) rfl ?_
            | refine r_lde tab_ok rfl rfl rfl rfl rfl (by omega) rfl rfl rfl rfl ?_
            | refine r_idxr_cnd tab_ok rfl rfl rfl rfl rfl rfl rfl rfl (by first | exact fun _ => rfl | exact cs1 | exact cs2) rfl rfl (by first | (intro _; exact ⟨by omega, by omega⟩) | (intro h; simp at h ⊢; omega)) rfl ?_
            | refine r_lde_cnd tab_ok rfl rfl rfl rfl rfl rfl rfl (by first | exact fun _ => rfl | exact cs1 | exact cs2) (by omega) rfl rfl rfl rfl ?_
            | refine r_cut tab_ok rfl rfl rfl rfl rfl rfl rfl rfl (by first | exact ⟨by simp, by simp; omega, by simp⟩ | (simp; omega)) rfl ?_
            | refine r_append tab_ok rfl rfl rfl rfl rfl rfl rfl rfl rfl (by first | omega | (simp; omega)) rfl ?_
            | refine r_append_nil tab_ok rfl rfl rfl rfl rfl rfl rfl rfl (by first | omega | (simp; omega)) rfl ?_)
          | refine ret1 (by first | exact .inl rfl | exact .inr rfl) rfl rfl rfl ?_
          | refine ret1_row (by first | exact .inl rfl | exact .inr rfl) rfl rfl rfl ?_
          | refine ret2 (by first | exact .inl rfl | exact .inr rfl) rfl rfl rfl rfl ?_ ?_
          | refine retM1 (by first | exact .inl rfl | exact .inr rfl) rfl rfl rfl rfl rfl ?_
          | exact retM0 (by first | exact .inl rfl | exact .inr rfl) rfl rfl rfl
          | refine awp_cond_t rfl ?_
          | refine awp_cond_f rfl ?_)
        refine r_make0 tab_ok (bD 0) rfl rfl rfl rfl rfl htext0 (by show (1 : Int) * text ≤ _; omega) (by omega) (by decide) rfl (fun _ _ => ⟨rfl, rfl⟩) rfl rfl rfl ?_
        rw [rep_b]
        repeat (first
          | refine awp_seq ?_
          | refine thenA_normal ?_
          | refine awp_block ?_
          | refine a_region ?_
          | refine awp_ret ?_
          | refine awp_exit ?_
          | refine thenA_exit ?_
          | refine thenA_ret ?_
          | refine blockA_normal ?_
          | refine blockA_ret ?_
          | refine blockA_hit rfl ?_
          | refine blockA_miss rfl ?_
          | refine awp_skip ?_
          | refine r_done ?_
          | refine r_done' ?_
          | (refine r_id ?_; first
            | refine r_len tab_ok rfl rfl rfl rfl rfl rfl rfl ?_
            | refine r_ev tab_ok rfl rfl rfl rfl (by first | exact trivial | exact ⟨by omega, by omega⟩ | omega | exact ⟨by omega, by omega, by omega, by omega⟩ | exact Nat.le_of_ble_eq_true rfl) rfl ?_
            | refine r_ld tab_ok rfl rfl rfl rfl rfl ?_
            | refine r_idx tab_ok rfl rfl rfl rfl rfl rfl rfl (by first | exact ⟨by omega, by omega⟩ | (simp; omega)) rfl rfl ?_
            | refine r_idxd tab_ok rfl rfl rfl rfl rfl rfl rfl (by decide) rfl rfl rfl ?_
            | refine r_wr tab_ok rfl rfl rfl rfl rfl ?_
            | refine r_st tab_ok rfl rfl rfl rfl ?_
            | refine r_len_cnd tab_ok rfl rfl rfl rfl rfl rfl (by first | exact fun _ => rfl | exact cs1) rfl rfl rfl ?_
            | refine r_ev_cnd tab_ok rfl rfl rfl rfl rfl rfl (by first | exact fun _ => rfl | exact cs1 | exact cs2 | exact cs3) (by first | exact fun _ => trivial | (intro h; simp at h; first | exact ⟨by omega, by omega⟩ | omega)) rfl ?_
            | refine r_ld_cnd tab_ok rfl rfl rfl rfl rfl rfl (by first | exact fun _ => rfl | exact cs1 | exact cs2 | exact cs3) rfl ?_
            | refine r_idx_cnd tab_ok rfl rfl rfl rfl rfl rfl rfl (by first | exact fun _ => rfl | exact cs1 | exact cs2) rfl rfl (by exact ⟨by omega, by omega⟩) rfl rfl ?_
            | refine r_idx_cnd' tab_ok rfl rfl rfl rfl rfl rfl rfl (by first | exact fun _ => rfl | exact cs1 | exact cs2) rfl rfl (by intro h; simp at h; exact ⟨by omega, by omega⟩) rfl rfl ?_
            | refine r_and_cnd rfl rfl rfl rfl rfl rfl rfl rfl rfl rfl ?_
            | refine r_or_cnd rfl rfl rfl rfl rfl rfl rfl rfl rfl rfl ?_
            | refine r_or rfl rfl rfl rfl rfl rfl rfl rfl ?_
            | refine r_and rfl rfl rfl rfl rfl rfl rfl rfl ?_
            | refine r_pick_t rfl rfl rfl rfl rfl rfl rfl ?_
            | refine r_pick_f rfl rfl rfl rfl rfl rfl rfl ?_
            | refine r_off rfl rfl rfl rfl rfl rfl ?_
            | refine r_len_on tab_ok rfl rfl rfl rfl rfl rfl rfl rfl rfl ?_
            | refine r_ev_on tab_ok rfl rfl rfl rfl rfl rfl (by first | exact trivial | exact ⟨by omega, by omega⟩ | omega) rfl ?_
            | refine r_ld_on tab_ok rfl rfl rfl rfl rfl rfl rfl ?_
            | refine r_build tab_ok rfl rfl rfl rfl rfl rfl ?_
            | refine r_bstr tab_ok rfl rfl rfl rfl rfl rfl rfl rfl rfl rfl ?_
            | refine r_build_cnd tab_ok rfl rfl rfl rfl rfl (by first | exact fun _ => rfl | exact cs1) rfl rfl rfl ?_
            | refine r_built_cnd tab_ok rfl rfl rfl rfl rfl rfl rfl rfl (by first | exact fun _ => rfl | exact cs1) rfl rfl rfl ?_
            | refine r_rem rfl rfl rfl rfl rfl rfl (by omega) rfl ?_
            | refine r_built0 tab_ok rfl rfl rfl rfl rfl rfl rfl ?_
            | refine r_built tab_ok rfl rfl rfl rfl rfl rfl rfl rfl rfl ?_
            | refine r_range tab_ok rfl rfl rfl rfl rfl rfl rfl ?_
            | refine r_next rfl rfl rfl rfl (by assumption) rfl rfl rfl ?_
            | refine r_next_end rfl rfl rfl rfl (by assumption) rfl rfl rfl ?_
            | refine r_nilck rfl rfl rfl rfl rfl rfl rfl ?_
            | refine r_rstr tab_ok rfl rfl rfl rfl rfl rfl rfl rfl ?_
            | refine r_rsstr tab_ok rfl rfl rfl rfl rfl rfl rfl rfl rfl rfl ?_
            | refine r_bstr' tab_ok rfl rfl rfl rfl rfl rfl rfl rfl rfl ?_
            | refine r_rowstr tab_ok rfl rfl rfl rfl rfl rfl rfl rfl rfl rfl ?_
            | refine r_strd tab_ok rfl rfl rfl rfl rfl rfl (by omega) rfl rfl rfl ?_
            | refine r_idxr tab_ok rfl rfl rfl rfl rfl rfl rfl rfl (by first | exact ⟨by omega, by omega⟩ | (simp; omega)) rfl ?_
            | refine r_lde tab_ok rfl rfl rfl rfl rfl (by omega) rfl rfl rfl rfl ?_
            | refine r_idxr_cnd tab_ok rfl rfl rfl rfl rfl rfl rfl rfl (by first | exact fun _ => rfl | exact cs1 | exact cs2) rfl rfl (by first | (intro _; exact ⟨by omega, by omega⟩) | (intro h; simp at h ⊢; omega)) rfl ?_
            | refine r_lde_cnd tab_ok rfl rfl rfl rfl rfl rfl rfl (by first | exact fun _ => rfl | exact cs1 | exact cs2) (by omega) rfl rfl rfl rfl ?_
            | refine r_cut tab_ok rfl rfl rfl rfl rfl rfl rfl rfl (by first | exact ⟨by simp, by simp; omega, by simp⟩ | (simp; omega)) rfl ?_
            | refine r_append tab_ok rfl rfl rfl rfl rfl rfl rfl rfl rfl (by first | omega | (simp; omega)) rfl ?_
            | refine r_append_nil tab_ok rfl rfl rfl rfl rfl rfl rfl rfl (by first | omega | (simp; omega)) rfl ?_)
          | refine ret1 (by first | exact .inl rfl | exact .inr rfl) rfl rfl rfl ?_
          | refine ret1_row (by first | exact .inl rfl | exact .inr rfl) rfl rfl rfl ?_
          | refine ret2 (by first | exact .inl rfl | exact .inr rfl) rfl rfl rfl rfl ?_ ?_
          | refine retM1 (by first | exact .inl rfl | exact .inr rfl) rfl rfl rfl rfl rfl ?_
          | exact retM0 (by first | exact .inl rfl | exact .inr rfl) rfl rfl rfl
          | refine awp_cond_t rfl ?_
          | refine awp_cond_f rfl ?_)
        refine r_nilck_o rfl rfl rfl rfl rfl rfl rfl ?_
        refine r_field_o tab_ok rfl rfl rfl rfl rfl rfl rfl rfl ?_
        refine r_st_o tab_ok rfl rfl rfl rfl rfl (by simp) rfl rfl rfl rfl rfl rfl ?_
        refine r_nilck_o rfl rfl rfl rfl rfl rfl rfl ?_
        refine r_field_o tab_ok rfl rfl rfl rfl rfl rfl rfl rfl ?_
        refine r_st_o tab_ok rfl rfl rfl rfl rfl (by simp) rfl rfl rfl rfl rfl rfl ?_
        obtain ⟨A, rfl⟩ : ∃ A : Nat, attrs = A := ⟨attrs.toNat, by omega⟩
        repeat (first
          | refine awp_seq ?_
          | refine thenA_normal ?_
          | refine awp_block ?_
          | refine a_region ?_
          | refine awp_ret ?_
          | refine awp_exit ?_
          | refine thenA_exit ?_
          | refine thenA_ret ?_
          | refine blockA_normal ?_
          | refine blockA_ret ?_
          | refine blockA_hit rfl ?_
          | refine blockA_miss rfl ?_
          | refine awp_skip ?_
          | refine r_done ?_
          | refine r_done' ?_
          | (refine r_id ?_; first
            | refine r_len tab_ok rfl rfl rfl rfl rfl rfl rfl ?_
            | refine r_ev tab_ok rfl rfl rfl rfl (by first | exact trivial | exact ⟨by omega, by omega⟩ | omega | exact ⟨by omega, by omega, by omega, by omega⟩ | exact Nat.le_of_ble_eq_true rfl) rfl ?_
            | refine r_ld tab_ok rfl rfl rfl rfl rfl ?_
            | refine r_idx tab_ok rfl rfl rfl rfl rfl rfl rfl (by first | exact ⟨by omega, by omega⟩ | (simp; omega)) rfl rfl ?_
            | refine r_idxd tab_ok rfl rfl rfl rfl rfl rfl rfl (by decide) rfl rfl rfl ?_
            | refine r_wr tab_ok rfl rfl rfl rfl rfl ?_
            | refine r_st tab_ok rfl rfl rfl rfl ?_
            | refine r_len_cnd tab_ok rfl rfl rfl rfl rfl rfl (by first | exact fun _ => rfl | exact cs1) rfl rfl rfl ?_
            | refine r_ev_cnd tab_ok rfl rfl rfl rfl rfl rfl (by first | exact fun _ => rfl | exact cs1 | exact cs2 | exact cs3) (by first | exact fun _ => trivial | (intro h; simp at h; first | exact ⟨by omega, by omega⟩ | omega)) rfl ?_
            | refine r_ld_cnd tab_ok rfl rfl rfl rfl rfl rfl (by first | exact fun _ => rfl | exact cs1 | exact cs2 | exact cs3) rfl ?_
            | refine r_idx_cnd tab_ok rfl rfl rfl rfl rfl rfl rfl (by first | exact fun _ => rfl | exact cs1 | exact cs2) rfl rfl (by exact ⟨by omega, by omega⟩) rfl rfl ?_
            | refine r_idx_cnd' tab_ok rfl rfl rfl rfl rfl rfl rfl (by first | exact fun _ => rfl | exact cs1 | exact cs2) rfl rfl (by intro h; simp at h; exact ⟨by omega, by omega⟩) rfl rfl ?_
            | refine r_and_cnd rfl rfl rfl rfl rfl rfl rfl rfl rfl rfl ?_
            | refine r_or_cnd rfl rfl rfl rfl rfl rfl rfl rfl rfl rfl ?_
            | refine r_or rfl rfl rfl rfl rfl rfl rfl rfl ?_
            | refine r_and rfl rfl rfl rfl rfl rfl rfl rfl ?_
            | refine r_pick_t rfl rfl rfl rfl rfl rfl rfl ?_
            | refine r_pick_f rfl rfl rfl rfl rfl rfl rfl ?_
            | refine r_off rfl rfl rfl rfl rfl rfl ?_
            | refine r_len_on tab_ok rfl rfl rfl rfl rfl rfl rfl rfl rfl ?_
            | refine r_ev_on tab_ok rfl rfl rfl rfl rfl rfl (by first | exact trivial | exact ⟨by omega, by omega⟩ | omega) rfl ?_
            | refine r_ld_on tab_ok rfl rfl rfl rfl rfl rfl rfl ?_
            | refine r_build tab_ok rfl rfl rfl rfl rfl rfl ?_
            | refine r_bstr tab_ok rfl rfl rfl rfl rfl rfl rfl rfl rfl rfl ?_
            | refine r_build_cnd tab_ok rfl rfl rfl rfl rfl (by first | exact fun _ => rfl | exact cs1) rfl rfl rfl ?_
            | refine r_built_cnd tab_ok rfl rfl rfl rfl rfl rfl rfl rfl (by first | exact fun _ => rfl | exact cs1) rfl rfl rfl ?_
            | refine r_rem rfl rfl rfl rfl rfl rfl (by omega) rfl ?_
            | refine r_built0 tab_ok rfl rfl rfl rfl rfl rfl rfl ?_
            | refine r_built tab_ok rfl rfl rfl rfl rfl rfl rfl rfl rfl ?_
            | refine r_range tab_ok rfl rfl rfl rfl rfl rfl rfl ?_
            | refine r_next rfl rfl rfl rfl (by assumption) rfl rfl rfl ?_
            | refine r_next_end rfl rfl rfl rfl (by assumption) rfl rfl rfl ?_
            | refine r_nilck rfl rfl rfl rfl rfl rfl rfl ?_
            | refine r_rstr tab_ok rfl rfl rfl rfl rfl rfl rfl rfl ?_
            | refine r_rsstr tab_ok rfl rfl rfl rfl rfl rfl rfl rfl rfl rfl ?_
            | refine r_bstr' tab_ok rfl rfl rfl rfl rfl rfl rfl rfl rfl ?_
            | refine r_rowstr tab_ok rfl rfl rfl rfl rfl rfl rfl rfl rfl rfl ?_
            | refine r_strd tab_ok rfl rfl rfl rfl rfl rfl (by omega) rfl rfl rfl ?_
            | refine r_idxr tab_ok rfl rfl rfl rfl rfl rfl rfl rfl (by first | exact ⟨by omega, by omega⟩ | (simp; omega)) rfl ?_
            | refine r_lde tab_ok rfl rfl rfl rfl rfl (by omega) rfl rfl rfl rfl ?_
            | refine r_idxr_cnd tab_ok rfl rfl rfl rfl rfl rfl rfl rfl (by first | exact fun _ => rfl | exact cs1 | exact cs2) rfl rfl (by first | (intro _; exact ⟨by omega, by omega⟩) | (intro h; simp at h ⊢; omega)) rfl ?_
            | refine r_lde_cnd tab_ok rfl rfl rfl rfl rfl rfl rfl (by first | exact fun _ => rfl | exact cs1 | exact cs2) (by omega) rfl rfl rfl rfl ?_
            | refine r_cut tab_ok rfl rfl rfl rfl rfl rfl rfl rfl (by first | exact ⟨by simp, by simp; omega, by simp⟩ | (simp; omega)) rfl ?_
            | refine r_append tab_ok rfl rfl rfl rfl rfl rfl rfl rfl rfl (by first | omega | (simp; omega)) rfl ?_
            | refine r_append_nil tab_ok rfl rfl rfl rfl rfl rfl rfl rfl (by first | omega | (simp; omega)) rfl ?_)
          | refine ret1 (by first | exact .inl rfl | exact .inr rfl) rfl rfl rfl ?_
          | refine ret1_row (by first | exact .inl rfl | exact .inr rfl) rfl rfl rfl ?_
          | refine ret2 (by first | exact .inl rfl | exact .inr rfl) rfl rfl rfl rfl ?_ ?_
          | refine retM1 (by first | exact .inl rfl | exact .inr rfl) rfl rfl rfl rfl rfl ?_
          | exact retM0 (by first | exact .inl rfl | exact .inr rfl) rfl rfl rfl
          | refine awp_cond_t rfl ?_
          | refine awp_cond_f rfl ?_)
        refine a_loop (σ := {j : Nat // j ≤ A}) (fun x => [.rowo 0 26 4 ((List.range m).map rawN) [.val (.int .i64 ((m : Int) - 1)), .val (.string (zs tag.toNat)), .val (.string (zs text.toNat)), .row 1 0], .row 0 30 2 (((List.range x.1).map (attrF A value)).map atD)])
          (fun x => [(0, .val (.int .i64 bytes)), (1, .val (.int .i64 ((m + 1 : Nat) : Int))), (2, .val (.int .i64 tag)), (3, .val (.int .i64 text)), (4, .val (.int .i64 A)), (5, .val (.int .i64 value)), (13, .row 0 0), (15, .eptr 0 0 ((List.range m).map rawN).length 0), (16, .val (.int .i64 x.1))])
          (fun x => A - x.1) ⟨0, by omega⟩ (fits_conv (by repeat' first | exact trivial | exact rfl | (rw [List.map_append]; first | done | rfl) | exact c_sub rfl (Sub.refl _) rfl | exact c_nil rfl rfl | exact c_thaw rfl rfl rfl | exact c_row rfl rfl rfl | exact c_row rfl rfl (by rw [List.map_append]; first | done | rfl) | exact c_ptr rfl rfl rfl rfl | exact Or.inl ⟨c_sub rfl (Sub.refl _) rfl, c_ptr rfl rfl rfl rfl⟩ | exact c_alt rfl rfl rfl rfl | exact c_ro rfl rfl | exact c_eo rfl rfl | exact c_sub rfl (Sub.altl _ _) rfl | refine ⟨_, _, rfl, ?_, ?_⟩ | apply And.intro) (by repeat' first | exact trivial | exact rfl | (rw [List.map_append]; first | done | rfl) | exact c_sub rfl (Sub.refl _) rfl | exact c_nil rfl rfl | exact c_thaw rfl rfl rfl | exact c_row rfl rfl rfl | exact c_row rfl rfl (by rw [List.map_append]; first | done | rfl) | exact c_ptr rfl rfl rfl rfl | exact Or.inl ⟨c_sub rfl (Sub.refl _) rfl, c_ptr rfl rfl rfl rfl⟩ | exact c_alt rfl rfl rfl rfl | exact c_ro rfl rfl | exact c_eo rfl rfl | exact c_sub rfl (Sub.altl _ _) rfl | refine ⟨_, _, rfl, ?_, ?_⟩ | apply And.intro)) ?_
        rintro ⟨j, hj⟩
        dsimp only
        repeat (first
          | refine awp_seq ?_
          | refine thenA_normal ?_
          | refine awp_block ?_
          | refine a_region ?_
          | refine awp_ret ?_
          | refine awp_exit ?_
          | refine thenA_exit ?_
          | refine thenA_ret ?_
          | refine blockA_normal ?_
          | refine blockA_ret ?_
          | refine blockA_hit rfl ?_
          | refine blockA_miss rfl ?_
          | refine awp_skip ?_
          | refine r_done ?_
          | refine r_done' ?_
          | (refine r_id ?_; first
            | refine r_len tab_ok rfl rfl rfl rfl rfl rfl rfl ?_
            | refine r_ev tab_ok rfl rfl rfl rfl (by first | exact trivial | exact ⟨by omega, by omega⟩ | omega | exact ⟨by omega, by omega, by omega, by omega⟩ | exact Nat.le_of_ble_eq_true rfl) rfl ?_
            | refine r_ld tab_ok rfl rfl rfl rfl rfl ?_
            | refine r_idx tab_ok rfl rfl rfl rfl rfl rfl rfl (by first | exact ⟨by omega, by omega⟩ | (simp; omega)) rfl rfl ?_
            | refine r_idxd tab_ok rfl rfl rfl rfl rfl rfl rfl (by decide) rfl rfl rfl ?_
            | refine r_wr tab_ok rfl rfl rfl rfl rfl ?_
            | refine r_st tab_ok rfl rfl rfl rfl ?_
            | refine r_len_cnd tab_ok rfl rfl rfl rfl rfl rfl (by first | exact fun _ => rfl | exact cs1) rfl rfl rfl ?_
            | refine r_ev_cnd tab_ok rfl rfl rfl rfl rfl rfl (by first | exact fun _ => rfl | exact cs1 | exact cs2 | exact cs3) (by first | exact fun _ => trivial | (intro h; simp at h; first | exact ⟨by omega, by omega⟩ | omega)) rfl ?_
            | refine r_ld_cnd tab_ok rfl rfl rfl rfl rfl rfl (by first | exact fun _ => rfl | exact cs1 | exact cs2 | exact cs3) rfl ?_
            | refine r_idx_cnd tab_ok rfl rfl rfl rfl rfl rfl rfl (by first | exact fun _ => rfl | exact cs1 | exact cs2) rfl rfl (by exact ⟨by omega, by omega⟩) rfl rfl ?_
            | refine r_idx_cnd' tab_ok rfl rfl rfl rfl rfl rfl rfl (by first | exact fun _ => rfl | exact cs1 | exact cs2) rfl rfl (by intro h; simp at h; exact ⟨by omega, by omega⟩) rfl rfl ?_
            | refine r_and_cnd rfl rfl rfl rfl rfl rfl rfl rfl rfl rfl ?_
            | refine r_or_cnd rfl rfl rfl rfl rfl rfl rfl rfl rfl rfl ?_
            | refine r_or rfl rfl rfl rfl rfl rfl rfl rfl ?_
            | refine r_and rfl rfl rfl rfl rfl rfl rfl rfl ?_
            | refine r_pick_t rfl rfl rfl rfl rfl rfl rfl ?_
            | refine r_pick_f rfl rfl rfl rfl rfl rfl rfl ?_
            | refine r_off rfl rfl rfl rfl rfl rfl ?_
            | refine r_len_on tab_ok rfl rfl rfl rfl rfl rfl rfl rfl rfl ?_
            | refine r_ev_on tab_ok rfl rfl rfl rfl rfl rfl (by first | exact trivial | exact ⟨by omega, by omega⟩ | omega) rfl ?_
            | refine r_ld_on tab_ok rfl rfl rfl rfl rfl rfl rfl ?_
            | refine r_build tab_ok rfl rfl rfl rfl rfl rfl ?_
            | refine r_bstr tab_ok rfl rfl rfl rfl rfl rfl rfl rfl rfl rfl ?_
            | refine r_build_cnd tab_ok rfl rfl rfl rfl rfl (by first | exact fun _ => rfl | exact cs1) rfl rfl rfl ?_
            | refine r_built_cnd tab_ok rfl rfl rfl rfl rfl rfl rfl rfl (by first | exact fun _ => rfl | exact cs1) rfl rfl rfl ?_
            | refine r_rem rfl rfl rfl rfl rfl rfl (by omega) rfl ?_
            | refine r_built0 tab_ok rfl rfl rfl rfl rfl rfl rfl ?_
            | refine r_built tab_ok rfl rfl rfl rfl rfl rfl rfl rfl rfl ?_
            | refine r_range tab_ok rfl rfl rfl rfl rfl rfl rfl ?_
            | refine r_next rfl rfl rfl rfl (by assumption) rfl rfl rfl ?_
            | refine r_next_end rfl rfl rfl rfl (by assumption) rfl rfl rfl ?_
            | refine r_nilck rfl rfl rfl rfl rfl rfl rfl ?_
            | refine r_rstr tab_ok rfl rfl rfl rfl rfl rfl rfl rfl ?_
            | refine r_rsstr tab_ok rfl rfl rfl rfl rfl rfl rfl rfl rfl rfl ?_
            | refine r_bstr' tab_ok rfl rfl rfl rfl rfl rfl rfl rfl rfl ?_
            | refine r_rowstr tab_ok rfl rfl rfl rfl rfl rfl rfl rfl rfl rfl ?_
            | refine r_strd tab_ok rfl rfl rfl rfl rfl rfl (by omega) rfl rfl rfl ?_
            | refine r_idxr tab_ok rfl rfl rfl rfl rfl rfl rfl rfl (by first | exact ⟨by omega, by omega⟩ | (simp; omega)) rfl ?_
            | refine r_lde tab_ok rfl rfl rfl rfl rfl (by omega) rfl rfl rfl rfl ?_
            | refine r_idxr_cnd tab_ok rfl rfl rfl rfl rfl rfl rfl rfl (by first | exact fun _ => rfl | exact cs1 | exact cs2) rfl rfl (by first | (intro _; exact ⟨by omega, by omega⟩) | (intro h; simp at h ⊢; omega)) rfl ?_
            | refine r_lde_cnd tab_ok rfl rfl rfl rfl rfl rfl rfl (by first | exact fun _ => rfl | exact cs1 | exact cs2) (by omega) rfl rfl rfl rfl ?_
            | refine r_cut tab_ok rfl rfl rfl rfl rfl rfl rfl rfl (by first | exact ⟨by simp, by simp; omega, by simp⟩ | (simp; omega)) rfl ?_
            | refine r_append tab_ok rfl rfl rfl rfl rfl rfl rfl rfl rfl (by first | omega | (simp; omega)) rfl ?_
            | refine r_append_nil tab_ok rfl rfl rfl rfl rfl rfl rfl rfl (by first | omega | (simp; omega)) rfl ?_)
          | refine ret1 (by first | exact .inl rfl | exact .inr rfl) rfl rfl rfl ?_
          | refine ret1_row (by first | exact .inl rfl | exact .inr rfl) rfl rfl rfl ?_
          | refine ret2 (by first | exact .inl rfl | exact .inr rfl) rfl rfl rfl rfl ?_ ?_
          | refine retM1 (by first | exact .inl rfl | exact .inr rfl) rfl rfl rfl rfl rfl ?_
          | exact retM0 (by first | exact .inl rfl | exact .inr rfl) rfl rfl rfl
          | refine awp_cond_t rfl ?_
          | refine awp_cond_f rfl ?_)
        refine awp_cond_p rfl (fun hlt2 => ?_) (fun hge2 => ?_)
        · have hq0 : 0 ≤ value / ((A : Int) - j) := Int.ediv_nonneg hv0 (by omega)
          have hq1 : value / ((A : Int) - j) ≤ value := Int.ediv_le_self _ hv0
          repeat (first
            | refine awp_seq ?_
            | refine thenA_normal ?_
            | refine awp_block ?_
            | refine a_region ?_
            | refine awp_ret ?_
            | refine awp_exit ?_
            | refine thenA_exit ?_
            | refine thenA_ret ?_
            | refine blockA_normal ?_
            | refine blockA_ret ?_
            | refine blockA_hit rfl ?_
            | refine blockA_miss rfl ?_
            | refine awp_skip ?_
            | refine r_done ?_
            | refine r_done' ?_
            | (refine r_id ?_; first
              | refine r_len tab_ok rfl rfl rfl rfl rfl rfl rfl ?_
              | refine r_ev tab_ok rfl rfl rfl rfl (by first | exact trivial | exact ⟨by omega, by omega⟩ | omega | exact ⟨by omega, by omega, by omega, by omega⟩ | exact Nat.le_of_ble_eq_true rfl) rfl ?_
              | refine r_ld tab_ok rfl rfl rfl rfl rfl ?_
              | refine r_idx tab_ok rfl rfl rfl rfl rfl rfl rfl (by first | exact ⟨by omega, by omega⟩ | (simp; omega)) rfl rfl ?_
              | refine r_idxd tab_ok rfl rfl rfl rfl rfl rfl rfl (by decide) rfl rfl rfl ?_
              | refine r_wr tab_ok rfl rfl rfl rfl rfl ?_
              | refine r_st tab_ok rfl rfl rfl rfl ?_
              | refine r_len_cnd tab_ok rfl rfl rfl rfl rfl rfl (by first | exact fun _ => rfl | exact cs1) rfl rfl rfl ?_
              | refine r_ev_cnd tab_ok rfl rfl rfl rfl rfl rfl (by first | exact fun _ => rfl | exact cs1 | exact cs2 | exact cs3) (by first | exact fun _ => trivial | (intro h; simp at h; first | exact ⟨by omega, by omega⟩ | omega)) rfl ?_
              | refine r_ld_cnd tab_ok rfl rfl rfl rfl rfl rfl (by first | exact fun _ => rfl | exact cs1 | exact cs2 | exact cs3) rfl ?_
              | refine r_idx_cnd tab_ok rfl rfl rfl rfl rfl rfl rfl (by first | exact fun _ => rfl | exact cs1 | exact cs2) rfl rfl (by exact ⟨by omega, by omega⟩) rfl rfl ?_
              | refine r_idx_cnd' tab_ok rfl rfl rfl rfl rfl rfl rfl (by first | exact fun _ => rfl | exact cs1 | exact cs2) rfl rfl (by intro h; simp at h; exact ⟨by omega, by omega⟩) rfl rfl ?_
              | refine r_and_cnd rfl rfl rfl rfl rfl rfl rfl rfl rfl rfl ?_
              | refine r_or_cnd rfl rfl rfl rfl rfl rfl rfl rfl rfl rfl ?_
              | refine r_or rfl rfl rfl rfl rfl rfl rfl rfl ?_
              | refine r_and rfl rfl rfl rfl rfl rfl rfl rfl ?_
              | refine r_pick_t rfl rfl rfl rfl rfl rfl rfl ?_
              | refine r_pick_f rfl rfl rfl rfl rfl rfl rfl ?_
              | refine r_off rfl rfl rfl rfl rfl rfl ?_
              | refine r_len_on tab_ok rfl rfl rfl rfl rfl rfl rfl rfl rfl ?_
              | refine r_ev_on tab_ok rfl rfl rfl rfl rfl rfl (by first | exact trivial | exact ⟨by omega, by omega⟩ | omega) rfl ?_
              | refine r_ld_on tab_ok rfl rfl rfl rfl rfl rfl rfl ?_
              | refine r_build tab_ok rfl rfl rfl rfl rfl rfl ?_
              | refine r_bstr tab_ok rfl rfl rfl rfl rfl rfl rfl rfl rfl rfl ?_
              | refine r_build_cnd tab_ok rfl rfl rfl rfl rfl (by first | exact fun _ => rfl | exact cs1) rfl rfl rfl ?_
              | refine r_built_cnd tab_ok rfl rfl rfl rfl rfl rfl rfl rfl (by first | exact fun _ => rfl | exact cs1) rfl rfl rfl ?_
              | refine r_rem rfl rfl rfl rfl rfl rfl (by omega) rfl ?_
              | refine r_built0 tab_ok rfl rfl rfl rfl rfl rfl rfl ?_
              | refine r_built tab_ok rfl rfl rfl rfl rfl rfl rfl rfl rfl ?_
              | refine r_range tab_ok rfl rfl rfl rfl rfl rfl rfl ?_
              | refine r_next rfl rfl rfl rfl (by assumption) rfl rfl rfl ?_
              | refine r_next_end rfl rfl rfl rfl (by assumption) rfl rfl rfl ?_
              | refine r_nilck rfl rfl rfl rfl rfl rfl rfl ?_
              | refine r_rstr tab_ok rfl rfl rfl rfl rfl rfl rfl rfl ?_
              | refine r_rsstr tab_ok rfl rfl rfl rfl rfl rfl rfl rfl rfl rfl ?_
              | refine r_bstr' tab_ok rfl rfl rfl rfl rfl rfl rfl rfl rfl ?_
              | refine r_rowstr tab_ok rfl rfl rfl rfl rfl rfl rfl rfl rfl rfl ?_
              | refine r_strd tab_ok rfl rfl rfl rfl rfl rfl (by omega) rfl rfl rfl ?_
              | refine r_idxr tab_ok rfl rfl rfl rfl rfl rfl rfl rfl (by first | exact ⟨by omega, by omega⟩ | (simp; omega)) rfl ?_
              | refine r_lde tab_ok rfl rfl rfl rfl rfl (by omega) rfl rfl rfl rfl ?_
              | refine r_idxr_cnd tab_ok rfl rfl rfl rfl rfl rfl rfl rfl (by first | exact fun _ => rfl | exact cs1 | exact cs2) rfl rfl (by first | (intro _; exact ⟨by omega, by omega⟩) | (intro h; simp at h ⊢; omega)) rfl ?_
              | refine r_lde_cnd tab_ok rfl rfl rfl rfl rfl rfl rfl (by first | exact fun _ => rfl | exact cs1 | exact cs2) (by omega) rfl rfl rfl rfl ?_
              | refine r_cut tab_ok rfl rfl rfl rfl rfl rfl rfl rfl (by first | exact ⟨by simp, by simp; omega, by simp⟩ | (simp; omega)) rfl ?_
              | refine r_append tab_ok rfl rfl rfl rfl rfl rfl rfl rfl rfl (by first | omega | (simp; omega)) rfl ?_
              | refine r_append_nil tab_ok rfl rfl rfl rfl rfl rfl rfl rfl (by first | omega | (simp; omega)) rfl ?_)
            | refine ret1 (by first | exact .inl rfl | exact .inr rfl) rfl rfl rfl ?_
            | refine ret1_row (by first | exact .inl rfl | exact .inr rfl) rfl rfl rfl ?_
            | refine ret2 (by first | exact .inl rfl | exact .inr rfl) rfl rfl rfl rfl ?_ ?_
            | refine retM1 (by first | exact .inl rfl | exact .inr rfl) rfl rfl rfl rfl rfl ?_
            | exact retM0 (by first | exact .inl rfl | exact .inr rfl) rfl rfl rfl
            | refine awp_cond_t rfl ?_
            | refine awp_cond_f rfl ?_)
          refine a_draw mixed_ok [0,0,1,1,1,0,0,0,0,0,0,0,0,1,2,1,1,2] (by kernel_rfl) ?_
          repeat (first
            | refine awp_seq ?_
            | refine thenA_normal ?_
            | refine awp_block ?_
            | refine a_region ?_
            | refine awp_ret ?_
            | refine awp_exit ?_
            | refine thenA_exit ?_
            | refine thenA_ret ?_
            | refine blockA_normal ?_
            | refine blockA_ret ?_
            | refine blockA_hit rfl ?_
            | refine blockA_miss rfl ?_
            | refine awp_skip ?_
            | refine r_done ?_
            | refine r_done' ?_
            | (refine r_id ?_; first
              | refine r_len tab_ok rfl rfl rfl rfl rfl rfl rfl ?_
              | refine r_ev tab_ok rfl rfl rfl rfl (by first | exact trivial | exact ⟨by omega, by omega⟩ | omega | exact ⟨by omega, by omega, by omega, by omega⟩ | exact Nat.le_of_ble_eq_true rfl) rfl ?_
              | refine r_ld tab_ok rfl rfl rfl rfl rfl ?_
              | refine r_idx tab_ok rfl rfl rfl rfl rfl rfl rfl (by first | exact ⟨by omega, by omega⟩ | (simp; omega)) rfl rfl ?_
              | refine r_idxd tab_ok rfl rfl rfl rfl rfl rfl rfl (by decide) rfl rfl rfl ?_
              | refine r_wr tab_ok rfl rfl rfl rfl rfl ?_
              | refine r_st tab_ok rfl rfl rfl rfl ?_
              | refine r_len_cnd tab_ok rfl rfl rfl rfl rfl rfl (by first | exact fun _ => rfl | exact cs1) rfl rfl rfl ?_
              | refine r_ev_cnd tab_ok rfl rfl rfl rfl rfl rfl (by first | exact fun _ => rfl | exact cs1 | exact cs2 | exact cs3) (by first | exact fun _ => trivial | (intro h; simp at h; first | exact ⟨by omega, by omega⟩ | omega)) rfl ?_
              | refine r_ld_cnd tab_ok rfl rfl rfl rfl rfl rfl (by first | exact fun _ => rfl | exact cs1 | exact cs2 | exact cs3) rfl ?_
              | refine r_idx_cnd tab_ok rfl rfl rfl rfl rfl rfl rfl (by first | exact fun _ => rfl | exact cs1 | exact cs2) rfl rfl (by exact ⟨by omega, by omega⟩) rfl rfl ?_
              | refine r_idx_cnd' tab_ok rfl rfl rfl rfl rfl rfl rfl (by first | exact fun _ => rfl | exact cs1 | exact cs2) rfl rfl (by intro h; simp at h; exact ⟨by omega, by omega⟩) rfl rfl ?_
              | refine r_and_cnd rfl rfl rfl rfl rfl rfl rfl rfl rfl rfl ?_
              | refine r_or_cnd rfl rfl rfl rfl rfl rfl rfl rfl rfl rfl ?_
              | refine r_or rfl rfl rfl rfl rfl rfl rfl rfl ?_
              | refine r_and rfl rfl rfl rfl rfl rfl rfl rfl ?_
              | refine r_pick_t rfl rfl rfl rfl rfl rfl rfl ?_
              | refine r_pick_f rfl rfl rfl rfl rfl rfl rfl ?_
              | refine r_off rfl rfl rfl rfl rfl rfl ?_
              | refine r_len_on tab_ok rfl rfl rfl rfl rfl rfl rfl rfl rfl ?_
              | refine r_ev_on tab_ok rfl rfl rfl rfl rfl rfl (by first | exact trivial | exact ⟨by omega, by omega⟩ | omega) rfl ?_
              | refine r_ld_on tab_ok rfl rfl rfl rfl rfl rfl rfl ?_
              | refine r_build tab_ok rfl rfl rfl rfl rfl rfl ?_
              | refine r_bstr tab_ok rfl rfl rfl rfl rfl rfl rfl rfl rfl rfl ?_
              | refine r_build_cnd tab_ok rfl rfl rfl rfl rfl (by first | exact fun _ => rfl | exact cs1) rfl rfl rfl ?_
              | refine r_built_cnd tab_ok rfl rfl rfl rfl rfl rfl rfl rfl (by first | exact fun _ => rfl | exact cs1) rfl rfl rfl ?_
              | refine r_rem rfl rfl rfl rfl rfl rfl (by omega) rfl ?_
              | refine r_built0 tab_ok rfl rfl rfl rfl rfl rfl rfl ?_
              | refine r_built tab_ok rfl rfl rfl rfl rfl rfl rfl rfl rfl ?_
              | refine r_range tab_ok rfl rfl rfl rfl rfl rfl rfl ?_
              | refine r_next rfl rfl rfl rfl (by assumption) rfl rfl rfl ?_
              | refine r_next_end rfl rfl rfl rfl (by assumption) rfl rfl rfl ?_
              | refine r_nilck rfl rfl rfl rfl rfl rfl rfl ?_
              | refine r_rstr tab_ok rfl rfl rfl rfl rfl rfl rfl rfl ?_
              | refine r_rsstr tab_ok rfl rfl rfl rfl rfl rfl rfl rfl rfl rfl ?_
              | refine r_bstr' tab_ok rfl rfl rfl rfl rfl rfl rfl rfl rfl ?_
              | refine r_rowstr tab_ok rfl rfl rfl rfl rfl rfl rfl rfl rfl rfl ?_
              | refine r_strd tab_ok rfl rfl rfl rfl rfl rfl (by omega) rfl rfl rfl ?_
              | refine r_idxr tab_ok rfl rfl rfl rfl rfl rfl rfl rfl (by first | exact ⟨by omega, by omega⟩ | (simp; omega)) rfl ?_
              | refine r_lde tab_ok rfl rfl rfl rfl rfl (by omega) rfl rfl rfl rfl ?_
              | refine r_idxr_cnd tab_ok rfl rfl rfl rfl rfl rfl rfl rfl (by first | exact fun _ => rfl | exact cs1 | exact cs2) rfl rfl (by first | (intro _; exact ⟨by omega, by omega⟩) | (intro h; simp at h ⊢; omega)) rfl ?_
              | refine r_lde_cnd tab_ok rfl rfl rfl rfl rfl rfl rfl (by first | exact fun _ => rfl | exact cs1 | exact cs2) (by omega) rfl rfl rfl rfl ?_
              | refine r_cut tab_ok rfl rfl rfl rfl rfl rfl rfl rfl (by first | exact ⟨by simp, by simp; omega, by simp⟩ | (simp; omega)) rfl ?_
              | refine r_append tab_ok rfl rfl rfl rfl rfl rfl rfl rfl rfl (by first | omega | (simp; omega)) rfl ?_
              | refine r_append_nil tab_ok rfl rfl rfl rfl rfl rfl rfl rfl (by first | omega | (simp; omega)) rfl ?_)
            | refine ret1 (by first | exact .inl rfl | exact .inr rfl) rfl rfl rfl ?_
            | refine ret1_row (by first | exact .inl rfl | exact .inr rfl) rfl rfl rfl ?_
            | refine ret2 (by first | exact .inl rfl | exact .inr rfl) rfl rfl rfl rfl ?_ ?_
            | refine retM1 (by first | exact .inl rfl | exact .inr rfl) rfl rfl rfl rfl rfl ?_
            | exact retM0 (by first | exact .inl rfl | exact .inr rfl) rfl rfl rfl
            | refine awp_cond_t rfl ?_
            | refine awp_cond_f rfl ?_)
          refine r_nilck_o rfl rfl rfl rfl rfl rfl rfl ?_
          refine r_field_o tab_ok rfl rfl rfl rfl rfl rfl rfl rfl ?_
          refine r_ld_o tab_ok rfl rfl rfl rfl rfl rfl rfl rfl rfl rfl ?_
          repeat (first
            | refine awp_seq ?_
            | refine thenA_normal ?_
            | refine awp_block ?_
            | refine a_region ?_
            | refine awp_ret ?_
            | refine awp_exit ?_
            | refine thenA_exit ?_
            | refine thenA_ret ?_
            | refine blockA_normal ?_
            | refine blockA_ret ?_
            | refine blockA_hit rfl ?_
            | refine blockA_miss rfl ?_
            | refine awp_skip ?_
            | refine r_done ?_
            | refine r_done' ?_
            | (refine r_id ?_; first
              | refine r_len tab_ok rfl rfl rfl rfl rfl rfl rfl ?_
              | refine r_ev tab_ok rfl rfl rfl rfl (by first | exact trivial | exact ⟨by omega, by omega⟩ | omega | exact ⟨by omega, by omega, by omega, by omega⟩ | exact Nat.le_of_ble_eq_true rfl) rfl ?_
              | refine r_ld tab_ok rfl rfl rfl rfl rfl ?_
              | refine r_idx tab_ok rfl rfl rfl rfl rfl rfl rfl (by first | exact ⟨by omega, by omega⟩ | (simp; omega)) rfl rfl ?_
              | refine r_idxd tab_ok rfl rfl rfl rfl rfl rfl rfl (by decide) rfl rfl rfl ?_
              | refine r_wr tab_ok rfl rfl rfl rfl rfl ?_
              | refine r_st tab_ok rfl rfl rfl rfl ?_
              | refine r_len_cnd tab_ok rfl rfl rfl rfl rfl rfl (by first | exact fun _ => rfl | exact cs1) rfl rfl rfl ?_
              | refine r_ev_cnd tab_ok rfl rfl rfl rfl rfl rfl (by first | exact fun _ => rfl | exact cs1 | exact cs2 | exact cs3) (by first | exact fun _ => trivial | (intro h; simp at h; first | exact ⟨by omega, by omega⟩ | omega)) rfl ?_
              | refine r_ld_cnd tab_ok rfl rfl rfl rfl rfl rfl (by first | exact fun _ => rfl | exact cs1 | exact cs2 | exact cs3) rfl ?_
              | refine r_idx_cnd tab_ok rfl rfl rfl rfl rfl rfl rfl (by first | exact fun _ => rfl | exact cs1 | exact cs2) rfl rfl (by exact ⟨by omega, by omega⟩) rfl rfl ?_
              | refine r_idx_cnd' tab_ok rfl rfl rfl rfl rfl rfl rfl (by first | exact fun _ => rfl | exact cs1 | exact cs2) rfl rfl (by intro h; simp at h; exact ⟨by omega, by omega⟩) rfl rfl ?_
              | refine r_and_cnd rfl rfl rfl rfl rfl rfl rfl rfl rfl rfl ?_
              | refine r_or_cnd rfl rfl rfl rfl rfl rfl rfl rfl rfl rfl ?_
              | refine r_or rfl rfl rfl rfl rfl rfl rfl rfl ?_
              | refine r_and rfl rfl rfl rfl rfl rfl rfl rfl ?_
              | refine r_pick_t rfl rfl rfl rfl rfl rfl rfl ?_
              | refine r_pick_f rfl rfl rfl rfl rfl rfl rfl ?_
              | refine r_off rfl rfl rfl rfl rfl rfl ?_
              | refine r_len_on tab_ok rfl rfl rfl rfl rfl rfl rfl rfl rfl ?_
              | refine r_ev_on tab_ok rfl rfl rfl rfl rfl rfl (by first | exact trivial | exact ⟨by omega, by omega⟩ | omega) rfl ?_
              | refine r_ld_on tab_ok rfl rfl rfl rfl rfl rfl rfl ?_
              | refine r_build tab_ok rfl rfl rfl rfl rfl rfl ?_
              | refine r_bstr tab_ok rfl rfl rfl rfl rfl rfl rfl rfl rfl rfl ?_
              | refine r_build_cnd tab_ok rfl rfl rfl rfl rfl (by first | exact fun _ => rfl | exact cs1) rfl rfl rfl ?_
              | refine r_built_cnd tab_ok rfl rfl rfl rfl rfl rfl rfl rfl (by first | exact fun _ => rfl | exact cs1) rfl rfl rfl ?_
              | refine r_rem rfl rfl rfl rfl rfl rfl (by omega) rfl ?_
              | refine r_built0 tab_ok rfl rfl rfl rfl rfl rfl rfl ?_
              | refine r_built tab_ok rfl rfl rfl rfl rfl rfl rfl rfl rfl ?_
              | refine r_range tab_ok rfl rfl rfl rfl rfl rfl rfl ?_
              | refine r_next rfl rfl rfl rfl (by assumption) rfl rfl rfl ?_
              | refine r_next_end rfl rfl rfl rfl (by assumption) rfl rfl rfl ?_
              | refine r_nilck rfl rfl rfl rfl rfl rfl rfl ?_
              | refine r_rstr tab_ok rfl rfl rfl rfl rfl rfl rfl rfl ?_
              | refine r_rsstr tab_ok rfl rfl rfl rfl rfl rfl rfl rfl rfl rfl ?_
              | refine r_bstr' tab_ok rfl rfl rfl rfl rfl rfl rfl rfl rfl ?_
              | refine r_rowstr tab_ok rfl rfl rfl rfl rfl rfl rfl rfl rfl rfl ?_
              | refine r_strd tab_ok rfl rfl rfl rfl rfl rfl (by omega) rfl rfl rfl ?_
              | refine r_idxr tab_ok rfl rfl rfl rfl rfl rfl rfl rfl (by first | exact ⟨by omega, by omega⟩ | (simp; omega)) rfl ?_
              | refine r_lde tab_ok rfl rfl rfl rfl rfl (by omega) rfl rfl rfl rfl ?_
              | refine r_idxr_cnd tab_ok rfl rfl rfl rfl rfl rfl rfl rfl (by first | exact fun _ => rfl | exact cs1 | exact cs2) rfl rfl (by first | (intro _; exact ⟨by omega, by omega⟩) | (intro h; simp at h ⊢; omega)) rfl ?_
              | refine r_lde_cnd tab_ok rfl rfl rfl rfl rfl rfl rfl (by first | exact fun _ => rfl | exact cs1 | exact cs2) (by omega) rfl rfl rfl rfl ?_
              | refine r_cut tab_ok rfl rfl rfl rfl rfl rfl rfl rfl (by first | exact ⟨by simp, by simp; omega, by simp⟩ | (simp; omega)) rfl ?_
              | refine r_append tab_ok rfl rfl rfl rfl rfl rfl rfl rfl rfl (by first | omega | (simp; omega)) rfl ?_
              | refine r_append_nil tab_ok rfl rfl rfl rfl rfl rfl rfl rfl (by first | omega | (simp; omega)) rfl ?_)
            | refine ret1 (by first | exact .inl rfl | exact .inr rfl) rfl rfl rfl ?_
            | refine ret1_row (by first | exact .inl rfl | exact .inr rfl) rfl rfl rfl ?_
            | refine ret2 (by first | exact .inl rfl | exact .inr rfl) rfl rfl rfl rfl ?_ ?_
            | refine retM1 (by first | exact .inl rfl | exact .inr rfl) rfl rfl rfl rfl rfl ?_
            | exact retM0 (by first | exact .inl rfl | exact .inr rfl) rfl rfl rfl
            | refine awp_cond_t rfl ?_
            | refine awp_cond_f rfl ?_)
          refine r_make0 tab_ok (bD 0) rfl rfl rfl rfl rfl hq0 (by show (1 : Int) * (value / ((A : Int) - j)) ≤ _; omega) (by omega) (by decide) rfl (fun _ _ => ⟨rfl, rfl⟩) rfl rfl rfl ?_
          rw [rep_b]
          repeat (first
            | refine awp_seq ?_
            | refine thenA_normal ?_
            | refine awp_block ?_
            | refine a_region ?_
            | refine awp_ret ?_
            | refine awp_exit ?_
            | refine thenA_exit ?_
            | refine thenA_ret ?_
            | refine blockA_normal ?_
            | refine blockA_ret ?_
            | refine blockA_hit rfl ?_
            | refine blockA_miss rfl ?_
            | refine awp_skip ?_
            | refine r_done ?_
            | refine r_done' ?_
            | (refine r_id ?_; first
              | refine r_len tab_ok rfl rfl rfl rfl rfl rfl rfl ?_
              | refine r_ev tab_ok rfl rfl rfl rfl (by first | exact trivial | exact ⟨by omega, by omega⟩ | omega | exact ⟨by omega, by omega, by omega, by omega⟩ | exact Nat.le_of_ble_eq_true rfl) rfl ?_
              | refine r_ld tab_ok rfl rfl rfl rfl rfl ?_
              | refine r_idx tab_ok rfl rfl rfl rfl rfl rfl rfl (by first | exact ⟨by omega, by omega⟩ | (simp; omega)) rfl rfl ?_
              | refine r_idxd tab_ok rfl rfl rfl rfl rfl rfl rfl (by decide) rfl rfl rfl ?_
              | refine r_wr tab_ok rfl rfl rfl rfl rfl ?_
              | refine r_st tab_ok rfl rfl rfl rfl ?_
              | refine r_len_cnd tab_ok rfl rfl rfl rfl rfl rfl (by first | exact fun _ => rfl | exact cs1) rfl rfl rfl ?_
              | refine r_ev_cnd tab_ok rfl rfl rfl rfl rfl rfl (by first | exact fun _ => rfl | exact cs1 | exact cs2 | exact cs3) (by first | exact fun _ => trivial | (intro h; simp at h; first | exact ⟨by omega, by omega⟩ | omega)) rfl ?_
              | refine r_ld_cnd tab_ok rfl rfl rfl rfl rfl rfl (by first | exact fun _ => rfl | exact cs1 | exact cs2 | exact cs3) rfl ?_
              | refine r_idx_cnd tab_ok rfl rfl rfl rfl rfl rfl rfl (by first | exact fun _ => rfl | exact cs1 | exact cs2) rfl rfl (by exact ⟨by omega, by omega⟩) rfl rfl ?_
              | refine r_idx_cnd' tab_ok rfl rfl rfl rfl rfl rfl rfl (by first | exact fun _ => rfl | exact cs1 | exact cs2) rfl rfl (by intro h; simp at h; exact ⟨by omega, by omega⟩) rfl rfl ?_
              | refine r_and_cnd rfl rfl rfl rfl rfl rfl rfl rfl rfl rfl ?_
              | refine r_or_cnd rfl rfl rfl rfl rfl rfl rfl rfl rfl rfl ?_
              | refine r_or rfl rfl rfl rfl rfl rfl rfl rfl ?_
              | refine r_and rfl rfl rfl rfl rfl rfl rfl rfl ?_
              | refine r_pick_t rfl rfl rfl rfl rfl rfl rfl ?_
              | refine r_pick_f rfl rfl rfl rfl rfl rfl rfl ?_
              | refine r_off rfl rfl rfl rfl rfl rfl ?_
              | refine r_len_on tab_ok rfl rfl rfl rfl rfl rfl rfl rfl rfl ?_
              | refine r_ev_on tab_ok rfl rfl rfl rfl rfl rfl (by first | exact trivial | exact ⟨by omega, by omega⟩ | omega) rfl ?_
              | refine r_ld_on tab_ok rfl rfl rfl rfl rfl rfl rfl ?_
              | refine r_build tab_ok rfl rfl rfl rfl rfl rfl ?_
              | refine r_bstr tab_ok rfl rfl rfl rfl rfl rfl rfl rfl rfl rfl ?_
              | refine r_build_cnd tab_ok rfl rfl rfl rfl rfl (by first | exact fun _ => rfl | exact cs1) rfl rfl rfl ?_
              | refine r_built_cnd tab_ok rfl rfl rfl rfl rfl rfl rfl rfl (by first | exact fun _ => rfl | exact cs1) rfl rfl rfl ?_
              | refine r_rem rfl rfl rfl rfl rfl rfl (by omega) rfl ?_
              | refine r_built0 tab_ok rfl rfl rfl rfl rfl rfl rfl ?_
              | refine r_built tab_ok rfl rfl rfl rfl rfl rfl rfl rfl rfl ?_
              | refine r_range tab_ok rfl rfl rfl rfl rfl rfl rfl ?_
              | refine r_next rfl rfl rfl rfl (by assumption) rfl rfl rfl ?_
              | refine r_next_end rfl rfl rfl rfl (by assumption) rfl rfl rfl ?_
              | refine r_nilck rfl rfl rfl rfl rfl rfl rfl ?_
              | refine r_rstr tab_ok rfl rfl rfl rfl rfl rfl rfl rfl ?_
              | refine r_rsstr tab_ok rfl rfl rfl rfl rfl rfl rfl rfl rfl rfl ?_
              | refine r_bstr' tab_ok rfl rfl rfl rfl rfl rfl rfl rfl rfl ?_
              | refine r_rowstr tab_ok rfl rfl rfl rfl rfl rfl rfl rfl rfl rfl ?_
              | refine r_strd tab_ok rfl rfl rfl rfl rfl rfl (by omega) rfl rfl rfl ?_
              | refine r_idxr tab_ok rfl rfl rfl rfl rfl rfl rfl rfl (by first | exact ⟨by omega, by omega⟩ | (simp; omega)) rfl ?_
              | refine r_lde tab_ok rfl rfl rfl rfl rfl (by omega) rfl rfl rfl rfl ?_
              | refine r_idxr_cnd tab_ok rfl rfl rfl rfl rfl rfl rfl rfl (by first | exact fun _ => rfl | exact cs1 | exact cs2) rfl rfl (by first | (intro _; exact ⟨by omega, by omega⟩) | (intro h; simp at h ⊢; omega)) rfl ?_
              | refine r_lde_cnd tab_ok rfl rfl rfl rfl rfl rfl rfl (by first | exact fun _ => rfl | exact cs1 | exact cs2) (by omega) rfl rfl rfl rfl ?_
              | refine r_cut tab_ok rfl rfl rfl rfl rfl rfl rfl rfl (by first | exact ⟨by simp, by simp; omega, by simp⟩ | (simp; omega)) rfl ?_
              | refine r_append tab_ok rfl rfl rfl rfl rfl rfl rfl rfl rfl (by first | omega | (simp; omega)) rfl ?_
              | refine r_append_nil tab_ok rfl rfl rfl rfl rfl rfl rfl rfl (by first | omega | (simp; omega)) rfl ?_)
            | refine ret1 (by first | exact .inl rfl | exact .inr rfl) rfl rfl rfl ?_
            | refine ret1_row (by first | exact .inl rfl | exact .inr rfl) rfl rfl rfl ?_
            | refine ret2 (by first | exact .inl rfl | exact .inr rfl) rfl rfl rfl rfl ?_ ?_
            | refine retM1 (by first | exact .inl rfl | exact .inr rfl) rfl rfl rfl rfl rfl ?_
            | exact retM0 (by first | exact .inl rfl | exact .inr rfl) rfl rfl rfl
            | refine awp_cond_t rfl ?_
            | refine awp_cond_f rfl ?_)
          refine r_nilck_o rfl rfl rfl rfl rfl rfl rfl ?_
          refine r_field_o tab_ok rfl rfl rfl rfl rfl rfl rfl rfl ?_
          refine r_st_o tab_ok rfl rfl rfl rfl rfl rfl rfl rfl rfl rfl rfl rfl ?_
          repeat (first
            | refine awp_seq ?_
            | refine thenA_normal ?_
            | refine awp_block ?_
            | refine a_region ?_
            | refine awp_ret ?_
            | refine awp_exit ?_
            | refine thenA_exit ?_
            | refine thenA_ret ?_
            | refine blockA_normal ?_
            | refine blockA_ret ?_
            | refine blockA_hit rfl ?_
            | refine blockA_miss rfl ?_
            | refine awp_skip ?_
            | refine r_done ?_
            | refine r_done' ?_
            | (refine r_id ?_; first
              | refine r_len tab_ok rfl rfl rfl rfl rfl rfl rfl ?_
              | refine r_ev tab_ok rfl rfl rfl rfl (by first | exact trivial | exact ⟨by omega, by omega⟩ | omega | exact ⟨by omega, by omega, by omega, by omega⟩ | exact Nat.le_of_ble_eq_true rfl) rfl ?_
              | refine r_ld tab_ok rfl rfl rfl rfl rfl ?_
              | refine r_idx tab_ok rfl rfl rfl rfl rfl rfl rfl (by first | exact ⟨by omega, by omega⟩ | (simp; omega)) rfl rfl ?_
              | refine r_idxd tab_ok rfl rfl rfl rfl rfl rfl rfl (by decide) rfl rfl rfl ?_
              | refine r_wr tab_ok rfl rfl rfl rfl rfl ?_
              | refine r_st tab_ok rfl rfl rfl rfl ?_
              | refine r_len_cnd tab_ok rfl rfl rfl rfl rfl rfl (by first | exact fun _ => rfl | exact cs1) rfl rfl rfl ?_
              | refine r_ev_cnd tab_ok rfl rfl rfl rfl rfl rfl (by first | exact fun _ => rfl | exact cs1 | exact cs2 | exact cs3) (by first | exact fun _ => trivial | (intro h; simp at h; first | exact ⟨by omega, by omega⟩ | omega)) rfl ?_
              | refine r_ld_cnd tab_ok rfl rfl rfl rfl rfl rfl (by first | exact fun _ => rfl | exact cs1 | exact cs2 | exact cs3) rfl ?_
              | refine r_idx_cnd tab_ok rfl rfl rfl rfl rfl rfl rfl (by first | exact fun _ => rfl | exact cs1 | exact cs2) rfl rfl (by exact ⟨by omega, by omega⟩) rfl rfl ?_
              | refine r_idx_cnd' tab_ok rfl rfl rfl rfl rfl rfl rfl (by first | exact fun _ => rfl | exact cs1 | exact cs2) rfl rfl (by intro h; simp at h; exact ⟨by omega, by omega⟩) rfl rfl ?_
              | refine r_and_cnd rfl rfl rfl rfl rfl rfl rfl rfl rfl rfl ?_
              | refine r_or_cnd rfl rfl rfl rfl rfl rfl rfl rfl rfl rfl ?_
              | refine r_or rfl rfl rfl rfl rfl rfl rfl rfl ?_
              | refine r_and rfl rfl rfl rfl rfl rfl rfl rfl ?_
              | refine r_pick_t rfl rfl rfl rfl rfl rfl rfl ?_
              | refine r_pick_f rfl rfl rfl rfl rfl rfl rfl ?_
              | refine r_off rfl rfl rfl rfl rfl rfl ?_
              | refine r_len_on tab_ok rfl rfl rfl rfl rfl rfl rfl rfl rfl ?_
              | refine r_ev_on tab_ok rfl rfl rfl rfl rfl rfl (by first | exact trivial | exact ⟨by omega, by omega⟩ | omega) rfl ?_
              | refine r_ld_on tab_ok rfl rfl rfl rfl rfl rfl rfl ?_
              | refine r_build tab_ok rfl rfl rfl rfl rfl rfl ?_
              | refine r_bstr tab_ok rfl rfl rfl rfl rfl rfl rfl rfl rfl rfl ?_
              | refine r_build_cnd tab_ok rfl rfl rfl rfl rfl (by first | exact fun _ => rfl | exact cs1) rfl rfl rfl ?_
              | refine r_built_cnd tab_ok rfl rfl rfl rfl rfl rfl rfl rfl (by first | exact fun _ => rfl | exact cs1) rfl rfl rfl ?_
              | refine r_rem rfl rfl rfl rfl rfl rfl (by omega) rfl ?_
              | refine r_built0 tab_ok rfl rfl rfl rfl rfl rfl rfl ?_
              | refine r_built tab_ok rfl rfl rfl rfl rfl rfl rfl rfl rfl ?_
              | refine r_range tab_ok rfl rfl rfl rfl rfl rfl rfl ?_
              | refine r_next rfl rfl rfl rfl (by assumption) rfl rfl rfl ?_
              | refine r_next_end rfl rfl rfl rfl (by assumption) rfl rfl rfl ?_
              | refine r_nilck rfl rfl rfl rfl rfl rfl rfl ?_
              | refine r_rstr tab_ok rfl rfl rfl rfl rfl rfl rfl rfl ?_
              | refine r_rsstr tab_ok rfl rfl rfl rfl rfl rfl rfl rfl rfl rfl ?_
              | refine r_bstr' tab_ok rfl rfl rfl rfl rfl rfl rfl rfl rfl ?_
              | refine r_rowstr tab_ok rfl rfl rfl rfl rfl rfl rfl rfl rfl rfl ?_
              | refine r_strd tab_ok rfl rfl rfl rfl rfl rfl (by omega) rfl rfl rfl ?_
              | refine r_idxr tab_ok rfl rfl rfl rfl rfl rfl rfl rfl (by first | exact ⟨by omega, by omega⟩ | (simp; omega)) rfl ?_
              | refine r_lde tab_ok rfl rfl rfl rfl rfl (by omega) rfl rfl rfl rfl ?_
              | refine r_idxr_cnd tab_ok rfl rfl rfl rfl rfl rfl rfl rfl (by first | exact fun _ => rfl | exact cs1 | exact cs2) rfl rfl (by first | (intro _; exact ⟨by omega, by omega⟩) | (intro h; simp at h ⊢; omega)) rfl ?_
              | refine r_lde_cnd tab_ok rfl rfl rfl rfl rfl rfl rfl (by first | exact fun _ => rfl | exact cs1 | exact cs2) (by omega) rfl rfl rfl rfl ?_
              | refine r_cut tab_ok rfl rfl rfl rfl rfl rfl rfl rfl (by first | exact ⟨by simp, by simp; omega, by simp⟩ | (simp; omega)) rfl ?_
              | refine r_append tab_ok rfl rfl rfl rfl rfl rfl rfl rfl rfl (by first | omega | (simp; omega)) rfl ?_
              | refine r_append_nil tab_ok rfl rfl rfl rfl rfl rfl rfl rfl (by first | omega | (simp; omega)) rfl ?_)
            | refine ret1 (by first | exact .inl rfl | exact .inr rfl) rfl rfl rfl ?_
            | refine ret1_row (by first | exact .inl rfl | exact .inr rfl) rfl rfl rfl ?_
            | refine ret2 (by first | exact .inl rfl | exact .inr rfl) rfl rfl rfl rfl ?_ ?_
            | refine retM1 (by first | exact .inl rfl | exact .inr rfl) rfl rfl rfl rfl rfl ?_
            | exact retM0 (by first | exact .inl rfl | exact .inr rfl) rfl rfl rfl
            | refine awp_cond_t rfl ?_
            | refine awp_cond_f rfl ?_)
          refine ⟨⟨j + 1, by omega⟩, by dsimp only; omega, ?_⟩
          dsimp only
          have hrowA : ((List.range (j + 1)).map (attrF A value)).map atD = ((List.range j).map (attrF A value)).map atD ++ [atD (attrF A value j)] := by rw [List.range_succ, List.map_append, List.map_append]; rfl
          rw [hrowA]
          exact fits_conv (by repeat' first | exact trivial | exact rfl | (rw [List.map_append]; first | done | rfl) | exact c_sub rfl (Sub.refl _) rfl | exact c_nil rfl rfl | exact c_thaw rfl rfl rfl | exact c_row rfl rfl rfl | exact c_row rfl rfl (by rw [List.map_append]; first | done | rfl) | exact c_ptr rfl rfl rfl rfl | exact Or.inl ⟨c_sub rfl (Sub.refl _) rfl, c_ptr rfl rfl rfl rfl⟩ | exact c_alt rfl rfl rfl rfl | exact c_ro rfl rfl | exact c_eo rfl rfl | exact c_sub rfl (Sub.altl _ _) rfl | refine ⟨_, _, rfl, ?_, ?_⟩ | apply And.intro) (by repeat' first | exact trivial | exact rfl | (rw [List.map_append]; first | done | rfl) | exact c_sub rfl (Sub.refl _) rfl | exact c_nil rfl rfl | exact c_thaw rfl rfl rfl | exact c_row rfl rfl rfl | exact c_row rfl rfl (by rw [List.map_append]; first | done | rfl) | exact c_ptr rfl rfl rfl rfl | exact Or.inl ⟨c_sub rfl (Sub.refl _) rfl, c_ptr rfl rfl rfl rfl⟩ | exact c_alt rfl rfl rfl rfl | exact c_ro rfl rfl | exact c_eo rfl rfl | exact c_sub rfl (Sub.altl _ _) rfl | refine ⟨_, _, rfl, ?_, ?_⟩ | apply And.intro)
        · have : j = A := by omega
          subst this
          refine awp_fits (fits_conv (M' := [.rowo 0 26 4 ((List.range m).map rawN) (rawD (lastR m j tag text value)).cells, .gone])
            (F' := [(0, .val (.int .i64 bytes)), (1, .val (.int .i64 ((m + 1 : Nat) : Int))), (2, .val (.int .i64 tag)), (3, .val (.int .i64 text)), (4, .val (.int .i64 j)), (5, .val (.int .i64 value)), (13, .row 0 0)]) (by repeat' first | exact trivial | exact rfl | (rw [List.map_append]; first | done | rfl) | exact c_sub rfl (Sub.refl _) rfl | exact c_nil rfl rfl | exact c_thaw rfl rfl rfl | exact c_row rfl rfl rfl | exact c_row rfl rfl (by rw [List.map_append]; first | done | rfl) | exact c_ptr rfl rfl rfl rfl | exact Or.inl ⟨c_sub rfl (Sub.refl _) rfl, c_ptr rfl rfl rfl rfl⟩ | exact c_alt rfl rfl rfl rfl | exact c_ro rfl rfl | exact c_eo rfl rfl | exact c_sub rfl (Sub.altl _ _) rfl | refine ⟨_, _, rfl, ?_, ?_⟩ | apply And.intro) (by repeat' first | exact trivial | exact rfl | (rw [List.map_append]; first | done | rfl) | exact c_sub rfl (Sub.refl _) rfl | exact c_nil rfl rfl | exact c_thaw rfl rfl rfl | exact c_row rfl rfl rfl | exact c_row rfl rfl (by rw [List.map_append]; first | done | rfl) | exact c_ptr rfl rfl rfl rfl | exact Or.inl ⟨c_sub rfl (Sub.refl _) rfl, c_ptr rfl rfl rfl rfl⟩ | exact c_alt rfl rfl rfl rfl | exact c_ro rfl rfl | exact c_eo rfl rfl | exact c_sub rfl (Sub.altl _ _) rfl | refine ⟨_, _, rfl, ?_, ?_⟩ | apply And.intro)) ?_
          refine awp_fits (fits_close (i := 0) (rawD (lastR m j tag text value)) 13 rfl rfl rfl (by simp [D.fine, rawD, Value.oneCell'])) ?_
          repeat (first
            | refine awp_seq ?_
            | refine thenA_normal ?_
            | refine awp_block ?_
            | refine a_region ?_
            | refine a_draw1 mixed_ok (by kernel_rfl) ?_
            | refine awp_ret ?_
            | refine awp_exit ?_
            | refine thenA_exit ?_
            | refine thenA_ret ?_
            | refine blockA_normal ?_
            | refine blockA_ret ?_
            | refine blockA_hit rfl ?_
            | refine blockA_miss rfl ?_
            | refine awp_skip ?_
            | refine r_done ?_
            | refine r_done' ?_
            | (refine r_id ?_; first
              | refine r_len tab_ok rfl rfl rfl rfl rfl rfl rfl ?_
              | refine r_ev tab_ok rfl rfl rfl rfl (by first | exact trivial | exact ⟨by omega, by omega⟩ | omega | exact ⟨by omega, by omega, by omega, by omega⟩ | exact Nat.le_of_ble_eq_true rfl) rfl ?_
              | refine r_ld tab_ok rfl rfl rfl rfl rfl ?_
              | refine r_idx tab_ok rfl rfl rfl rfl rfl rfl rfl (by first | exact ⟨by omega, by omega⟩ | (simp; omega)) rfl rfl ?_
              | refine r_idxd tab_ok rfl rfl rfl rfl rfl rfl rfl (by decide) rfl rfl rfl ?_
              | refine r_wr tab_ok rfl rfl rfl rfl rfl ?_
              | refine r_st tab_ok rfl rfl rfl rfl ?_
              | refine r_len_cnd tab_ok rfl rfl rfl rfl rfl rfl (by first | exact fun _ => rfl | exact cs1) rfl rfl rfl ?_
              | refine r_ev_cnd tab_ok rfl rfl rfl rfl rfl rfl (by first | exact fun _ => rfl | exact cs1 | exact cs2 | exact cs3) (by first | exact fun _ => trivial | (intro h; simp at h; first | exact ⟨by omega, by omega⟩ | omega)) rfl ?_
              | refine r_ld_cnd tab_ok rfl rfl rfl rfl rfl rfl (by first | exact fun _ => rfl | exact cs1 | exact cs2 | exact cs3) rfl ?_
              | refine r_idx_cnd tab_ok rfl rfl rfl rfl rfl rfl rfl (by first | exact fun _ => rfl | exact cs1 | exact cs2) rfl rfl (by exact ⟨by omega, by omega⟩) rfl rfl ?_
              | refine r_idx_cnd' tab_ok rfl rfl rfl rfl rfl rfl rfl (by first | exact fun _ => rfl | exact cs1 | exact cs2) rfl rfl (by intro h; simp at h; exact ⟨by omega, by omega⟩) rfl rfl ?_
              | refine r_and_cnd rfl rfl rfl rfl rfl rfl rfl rfl rfl rfl ?_
              | refine r_or_cnd rfl rfl rfl rfl rfl rfl rfl rfl rfl rfl ?_
              | refine r_or rfl rfl rfl rfl rfl rfl rfl rfl ?_
              | refine r_and rfl rfl rfl rfl rfl rfl rfl rfl ?_
              | refine r_pick_t rfl rfl rfl rfl rfl rfl rfl ?_
              | refine r_pick_f rfl rfl rfl rfl rfl rfl rfl ?_
              | refine r_off rfl rfl rfl rfl rfl rfl ?_
              | refine r_len_on tab_ok rfl rfl rfl rfl rfl rfl rfl rfl rfl ?_
              | refine r_ev_on tab_ok rfl rfl rfl rfl rfl rfl (by first | exact trivial | exact ⟨by omega, by omega⟩ | omega) rfl ?_
              | refine r_ld_on tab_ok rfl rfl rfl rfl rfl rfl rfl ?_
              | refine r_build tab_ok rfl rfl rfl rfl rfl rfl ?_
              | refine r_bstr tab_ok rfl rfl rfl rfl rfl rfl rfl rfl rfl rfl ?_
              | refine r_build_cnd tab_ok rfl rfl rfl rfl rfl (by first | exact fun _ => rfl | exact cs1) rfl rfl rfl ?_
              | refine r_built_cnd tab_ok rfl rfl rfl rfl rfl rfl rfl rfl (by first | exact fun _ => rfl | exact cs1) rfl rfl rfl ?_
              | refine r_rem rfl rfl rfl rfl rfl rfl (by omega) rfl ?_
              | refine r_built0 tab_ok rfl rfl rfl rfl rfl rfl rfl ?_
              | refine r_built tab_ok rfl rfl rfl rfl rfl rfl rfl rfl rfl ?_
              | refine r_range tab_ok rfl rfl rfl rfl rfl rfl rfl ?_
              | refine r_next rfl rfl rfl rfl (by assumption) rfl rfl rfl ?_
              | refine r_next_end rfl rfl rfl rfl (by assumption) rfl rfl rfl ?_
              | refine r_nilck rfl rfl rfl rfl rfl rfl rfl ?_
              | refine r_rstr tab_ok rfl rfl rfl rfl rfl rfl rfl rfl ?_
              | refine r_rsstr tab_ok rfl rfl rfl rfl rfl rfl rfl rfl rfl rfl ?_
              | refine r_bstr' tab_ok rfl rfl rfl rfl rfl rfl rfl rfl rfl ?_
              | refine r_rowstr tab_ok rfl rfl rfl rfl rfl rfl rfl rfl rfl rfl ?_
              | refine r_strd tab_ok rfl rfl rfl rfl rfl rfl (by omega) rfl rfl rfl ?_
              | refine r_idxr tab_ok rfl rfl rfl rfl rfl rfl rfl rfl (by first | exact ⟨by omega, by omega⟩ | (simp; omega)) rfl ?_
              | refine r_lde tab_ok rfl rfl rfl rfl rfl (by omega) rfl rfl rfl rfl ?_
              | refine r_idxr_cnd tab_ok rfl rfl rfl rfl rfl rfl rfl rfl (by first | exact fun _ => rfl | exact cs1 | exact cs2) rfl rfl (by first | (intro _; exact ⟨by omega, by omega⟩) | (intro h; simp at h ⊢; omega)) rfl ?_
              | refine r_lde_cnd tab_ok rfl rfl rfl rfl rfl rfl rfl (by first | exact fun _ => rfl | exact cs1 | exact cs2) (by omega) rfl rfl rfl rfl ?_
              | refine r_cut tab_ok rfl rfl rfl rfl rfl rfl rfl rfl (by first | exact ⟨by simp, by simp; omega, by simp⟩ | (simp; omega)) rfl ?_
              | refine r_append tab_ok rfl rfl rfl rfl rfl rfl rfl rfl rfl (by first | omega | (simp; omega)) rfl ?_
              | refine r_append_nil tab_ok rfl rfl rfl rfl rfl rfl rfl rfl (by first | omega | (simp; omega)) rfl ?_)
            | refine ret1 (by first | exact .inl rfl | exact .inr rfl) rfl rfl rfl ?_
            | refine ret1_row (by first | exact .inl rfl | exact .inr rfl) rfl rfl rfl ?_
            | refine ret2 (by first | exact .inl rfl | exact .inr rfl) rfl rfl rfl rfl ?_ ?_
            | refine retM1 (by first | exact .inl rfl | exact .inr rfl) rfl rfl rfl rfl rfl ?_
            | exact retM0 (by first | exact .inl rfl | exact .inr rfl) rfl rfl rfl
            | refine awp_cond_t rfl ?_
            | refine awp_cond_f rfl ?_)
          refine r_call (input_ok bytes ((List.range m).map rawR ++ [lastR m j tag text value])) call8 rfl rfl ⟨Sub.refl _, sub_table m j tag text value, trivial⟩ rfl rfl rfl rfl ?_
          repeat (first
            | refine awp_seq ?_
            | refine thenA_normal ?_
            | refine awp_block ?_
            | refine a_region ?_
            | refine a_draw1 mixed_ok (by kernel_rfl) ?_
            | refine awp_ret ?_
            | refine awp_exit ?_
            | refine thenA_exit ?_
            | refine thenA_ret ?_
            | refine blockA_normal ?_
            | refine blockA_ret ?_
            | refine blockA_hit rfl ?_
            | refine blockA_miss rfl ?_
            | refine awp_skip ?_
            | refine r_done ?_
            | refine r_done' ?_
            | (refine r_id ?_; first
              | refine r_len tab_ok rfl rfl rfl rfl rfl rfl rfl ?_
              | refine r_ev tab_ok rfl rfl rfl rfl (by first | exact trivial | exact ⟨by omega, by omega⟩ | omega | exact ⟨by omega, by omega, by omega, by omega⟩ | exact Nat.le_of_ble_eq_true rfl) rfl ?_
              | refine r_ld tab_ok rfl rfl rfl rfl rfl ?_
              | refine r_idx tab_ok rfl rfl rfl rfl rfl rfl rfl (by first | exact ⟨by omega, by omega⟩ | (simp; omega)) rfl rfl ?_
              | refine r_idxd tab_ok rfl rfl rfl rfl rfl rfl rfl (by decide) rfl rfl rfl ?_
              | refine r_wr tab_ok rfl rfl rfl rfl rfl ?_
              | refine r_st tab_ok rfl rfl rfl rfl ?_
              | refine r_len_cnd tab_ok rfl rfl rfl rfl rfl rfl (by first | exact fun _ => rfl | exact cs1) rfl rfl rfl ?_
              | refine r_ev_cnd tab_ok rfl rfl rfl rfl rfl rfl (by first | exact fun _ => rfl | exact cs1 | exact cs2 | exact cs3) (by first | exact fun _ => trivial | (intro h; simp at h; first | exact ⟨by omega, by omega⟩ | omega)) rfl ?_
              | refine r_ld_cnd tab_ok rfl rfl rfl rfl rfl rfl (by first | exact fun _ => rfl | exact cs1 | exact cs2 | exact cs3) rfl ?_
              | refine r_idx_cnd tab_ok rfl rfl rfl rfl rfl rfl rfl (by first | exact fun _ => rfl | exact cs1 | exact cs2) rfl rfl (by exact ⟨by omega, by omega⟩) rfl rfl ?_
              | refine r_idx_cnd' tab_ok rfl rfl rfl rfl rfl rfl rfl (by first | exact fun _ => rfl | exact cs1 | exact cs2) rfl rfl (by intro h; simp at h; exact ⟨by omega, by omega⟩) rfl rfl ?_
              | refine r_and_cnd rfl rfl rfl rfl rfl rfl rfl rfl rfl rfl ?_
              | refine r_or_cnd rfl rfl rfl rfl rfl rfl rfl rfl rfl rfl ?_
              | refine r_or rfl rfl rfl rfl rfl rfl rfl rfl ?_
              | refine r_and rfl rfl rfl rfl rfl rfl rfl rfl ?_
              | refine r_pick_t rfl rfl rfl rfl rfl rfl rfl ?_
              | refine r_pick_f rfl rfl rfl rfl rfl rfl rfl ?_
              | refine r_off rfl rfl rfl rfl rfl rfl ?_
              | refine r_len_on tab_ok rfl rfl rfl rfl rfl rfl rfl rfl rfl ?_
              | refine r_ev_on tab_ok rfl rfl rfl rfl rfl rfl (by first | exact trivial | exact ⟨by omega, by omega⟩ | omega) rfl ?_
              | refine r_ld_on tab_ok rfl rfl rfl rfl rfl rfl rfl ?_
              | refine r_build tab_ok rfl rfl rfl rfl rfl rfl ?_
              | refine r_bstr tab_ok rfl rfl rfl rfl rfl rfl rfl rfl rfl rfl ?_
              | refine r_build_cnd tab_ok rfl rfl rfl rfl rfl (by first | exact fun _ => rfl | exact cs1) rfl rfl rfl ?_
              | refine r_built_cnd tab_ok rfl rfl rfl rfl rfl rfl rfl rfl (by first | exact fun _ => rfl | exact cs1) rfl rfl rfl ?_
              | refine r_rem rfl rfl rfl rfl rfl rfl (by omega) rfl ?_
              | refine r_built0 tab_ok rfl rfl rfl rfl rfl rfl rfl ?_
              | refine r_built tab_ok rfl rfl rfl rfl rfl rfl rfl rfl rfl ?_
              | refine r_range tab_ok rfl rfl rfl rfl rfl rfl rfl ?_
              | refine r_next rfl rfl rfl rfl (by assumption) rfl rfl rfl ?_
              | refine r_next_end rfl rfl rfl rfl (by assumption) rfl rfl rfl ?_
              | refine r_nilck rfl rfl rfl rfl rfl rfl rfl ?_
              | refine r_rstr tab_ok rfl rfl rfl rfl rfl rfl rfl rfl ?_
              | refine r_rsstr tab_ok rfl rfl rfl rfl rfl rfl rfl rfl rfl rfl ?_
              | refine r_bstr' tab_ok rfl rfl rfl rfl rfl rfl rfl rfl rfl ?_
              | refine r_rowstr tab_ok rfl rfl rfl rfl rfl rfl rfl rfl rfl rfl ?_
              | refine r_strd tab_ok rfl rfl rfl rfl rfl rfl (by omega) rfl rfl rfl ?_
              | refine r_idxr tab_ok rfl rfl rfl rfl rfl rfl rfl rfl (by first | exact ⟨by omega, by omega⟩ | (simp; omega)) rfl ?_
              | refine r_lde tab_ok rfl rfl rfl rfl rfl (by omega) rfl rfl rfl rfl ?_
              | refine r_idxr_cnd tab_ok rfl rfl rfl rfl rfl rfl rfl rfl (by first | exact fun _ => rfl | exact cs1 | exact cs2) rfl rfl (by first | (intro _; exact ⟨by omega, by omega⟩) | (intro h; simp at h ⊢; omega)) rfl ?_
              | refine r_lde_cnd tab_ok rfl rfl rfl rfl rfl rfl rfl (by first | exact fun _ => rfl | exact cs1 | exact cs2) (by omega) rfl rfl rfl rfl ?_
              | refine r_cut tab_ok rfl rfl rfl rfl rfl rfl rfl rfl (by first | exact ⟨by simp, by simp; omega, by simp⟩ | (simp; omega)) rfl ?_
              | refine r_append tab_ok rfl rfl rfl rfl rfl rfl rfl rfl rfl (by first | omega | (simp; omega)) rfl ?_
              | refine r_append_nil tab_ok rfl rfl rfl rfl rfl rfl rfl rfl (by first | omega | (simp; omega)) rfl ?_)
            | refine ret1 (by first | exact .inl rfl | exact .inr rfl) rfl rfl rfl ?_
            | refine ret1_row (by first | exact .inl rfl | exact .inr rfl) rfl rfl rfl ?_
            | refine ret2 (by first | exact .inl rfl | exact .inr rfl) rfl rfl rfl rfl ?_ ?_
            | refine retM1 (by first | exact .inl rfl | exact .inr rfl) rfl rfl rfl rfl rfl ?_
            | exact retM0 (by first | exact .inl rfl | exact .inr rfl) rfl rfl rfl
            | refine awp_cond_t rfl ?_
            | refine awp_cond_f rfl ?_)
          have hres := input_last bytes m j htag0 htext0 hv0 (tag := tag) (text := text) (value := value)
          refine awp_cond_p rfl (fun hb => ?_) (fun hb => ?_)
          · rw [if_pos hb] at hres
            rw [hres]
            repeat (first
              | refine awp_seq ?_
              | refine thenA_normal ?_
              | refine awp_block ?_
              | refine a_region ?_
              | refine a_draw1 mixed_ok (by kernel_rfl) ?_
              | refine awp_ret ?_
              | refine awp_exit ?_
              | refine thenA_exit ?_
              | refine thenA_ret ?_
              | refine blockA_normal ?_
              | refine blockA_ret ?_
              | refine blockA_hit rfl ?_
              | refine blockA_miss rfl ?_
              | refine awp_skip ?_
              | refine r_done ?_
              | refine r_done' ?_
              | (refine r_id ?_; first
                | refine r_len tab_ok rfl rfl rfl rfl rfl rfl rfl ?_
                | refine r_ev tab_ok rfl rfl rfl rfl (by first | exact trivial | exact ⟨by omega, by omega⟩ | omega | exact ⟨by omega, by omega, by omega, by omega⟩ | exact Nat.le_of_ble_eq_true rfl) rfl ?_
                | refine r_ld tab_ok rfl rfl rfl rfl rfl ?_
                | refine r_idx tab_ok rfl rfl rfl rfl rfl rfl rfl (by first | exact ⟨by omega, by omega⟩ | (simp; omega)) rfl rfl ?_
                | refine r_idxd tab_ok rfl rfl rfl rfl rfl rfl rfl (by decide) rfl rfl rfl ?_
                | refine r_wr tab_ok rfl rfl rfl rfl rfl ?_
                | refine r_st tab_ok rfl rfl rfl rfl ?_
                | refine r_len_cnd tab_ok rfl rfl rfl rfl rfl rfl (by first | exact fun _ => rfl | exact cs1) rfl rfl rfl ?_
                | refine r_ev_cnd tab_ok rfl rfl rfl rfl rfl rfl (by first | exact fun _ => rfl | exact cs1 | exact cs2 | exact cs3) (by first | exact fun _ => trivial | (intro h; simp at h; first | exact ⟨by omega, by omega⟩ | omega)) rfl ?_
                | refine r_ld_cnd tab_ok rfl rfl rfl rfl rfl rfl (by first | exact fun _ => rfl | exact cs1 | exact cs2 | exact cs3) rfl ?_
                | refine r_idx_cnd tab_ok rfl rfl rfl rfl rfl rfl rfl (by first | exact fun _ => rfl | exact cs1 | exact cs2) rfl rfl (by exact ⟨by omega, by omega⟩) rfl rfl ?_
                | refine r_idx_cnd' tab_ok rfl rfl rfl rfl rfl rfl rfl (by first | exact fun _ => rfl | exact cs1 | exact cs2) rfl rfl (by intro h; simp at h; exact ⟨by omega, by omega⟩) rfl rfl ?_
                | refine r_and_cnd rfl rfl rfl rfl rfl rfl rfl rfl rfl rfl ?_
                | refine r_or_cnd rfl rfl rfl rfl rfl rfl rfl rfl rfl rfl ?_
                | refine r_or rfl rfl rfl rfl rfl rfl rfl rfl ?_
                | refine r_and rfl rfl rfl rfl rfl rfl rfl rfl ?_
                | refine r_pick_t rfl rfl rfl rfl rfl rfl rfl ?_
                | refine r_pick_f rfl rfl rfl rfl rfl rfl rfl ?_
                | refine r_off rfl rfl rfl rfl rfl rfl ?_
                | refine r_len_on tab_ok rfl rfl rfl rfl rfl rfl rfl rfl rfl ?_
                | refine r_ev_on tab_ok rfl rfl rfl rfl rfl rfl (by first | exact trivial | exact ⟨by omega, by omega⟩ | omega) rfl ?_
                | refine r_ld_on tab_ok rfl rfl rfl rfl rfl rfl rfl ?_
                | refine r_build tab_ok rfl rfl rfl rfl rfl rfl ?_
                | refine r_bstr tab_ok rfl rfl rfl rfl rfl rfl rfl rfl rfl rfl ?_
                | refine r_build_cnd tab_ok rfl rfl rfl rfl rfl (by first | exact fun _ => rfl | exact cs1) rfl rfl rfl ?_
                | refine r_built_cnd tab_ok rfl rfl rfl rfl rfl rfl rfl rfl (by first | exact fun _ => rfl | exact cs1) rfl rfl rfl ?_
                | refine r_rem rfl rfl rfl rfl rfl rfl (by omega) rfl ?_
                | refine r_built0 tab_ok rfl rfl rfl rfl rfl rfl rfl ?_
                | refine r_built tab_ok rfl rfl rfl rfl rfl rfl rfl rfl rfl ?_
                | refine r_range tab_ok rfl rfl rfl rfl rfl rfl rfl ?_
                | refine r_next rfl rfl rfl rfl (by assumption) rfl rfl rfl ?_
                | refine r_next_end rfl rfl rfl rfl (by assumption) rfl rfl rfl ?_
                | refine r_nilck rfl rfl rfl rfl rfl rfl rfl ?_
                | refine r_rstr tab_ok rfl rfl rfl rfl rfl rfl rfl rfl ?_
                | refine r_rsstr tab_ok rfl rfl rfl rfl rfl rfl rfl rfl rfl rfl ?_
                | refine r_bstr' tab_ok rfl rfl rfl rfl rfl rfl rfl rfl rfl ?_
                | refine r_rowstr tab_ok rfl rfl rfl rfl rfl rfl rfl rfl rfl rfl ?_
                | refine r_strd tab_ok rfl rfl rfl rfl rfl rfl (by omega) rfl rfl rfl ?_
                | refine r_idxr tab_ok rfl rfl rfl rfl rfl rfl rfl rfl (by first | exact ⟨by omega, by omega⟩ | (simp; omega)) rfl ?_
                | refine r_lde tab_ok rfl rfl rfl rfl rfl (by omega) rfl rfl rfl rfl ?_
                | refine r_idxr_cnd tab_ok rfl rfl rfl rfl rfl rfl rfl rfl (by first | exact fun _ => rfl | exact cs1 | exact cs2) rfl rfl (by first | (intro _; exact ⟨by omega, by omega⟩) | (intro h; simp at h ⊢; omega)) rfl ?_
                | refine r_lde_cnd tab_ok rfl rfl rfl rfl rfl rfl rfl (by first | exact fun _ => rfl | exact cs1 | exact cs2) (by omega) rfl rfl rfl rfl ?_
                | refine r_cut tab_ok rfl rfl rfl rfl rfl rfl rfl rfl (by first | exact ⟨by simp, by simp; omega, by simp⟩ | (simp; omega)) rfl ?_
                | refine r_append tab_ok rfl rfl rfl rfl rfl rfl rfl rfl rfl (by first | omega | (simp; omega)) rfl ?_
                | refine r_append_nil tab_ok rfl rfl rfl rfl rfl rfl rfl rfl (by first | omega | (simp; omega)) rfl ?_)
              | refine ret1 (by first | exact .inl rfl | exact .inr rfl) rfl rfl rfl ?_
              | refine ret1_row (by first | exact .inl rfl | exact .inr rfl) rfl rfl rfl ?_
              | refine ret2 (by first | exact .inl rfl | exact .inr rfl) rfl rfl rfl rfl ?_ ?_
              | refine retM1 (by first | exact .inl rfl | exact .inr rfl) rfl rfl rfl rfl rfl ?_
              | exact retM0 (by first | exact .inl rfl | exact .inr rfl) rfl rfl rfl
              | refine awp_cond_t rfl ?_
              | refine awp_cond_f rfl ?_)
            refine r_call_cnd (fun _ => refInput_ok bytes ((List.range m).map rawR ++ [lastR m j tag text value])) call9 rfl rfl rfl rfl (by first | exact fun _ => rfl | exact cs1 | exact cs2 | exact cs3) ⟨Sub.refl _, sub_table m j tag text value, trivial⟩ rfl rfl rfl rfl ?_
            rw [hres]
            repeat (first
              | refine awp_seq ?_
              | refine thenA_normal ?_
              | refine awp_block ?_
              | refine a_region ?_
              | refine a_draw1 mixed_ok (by kernel_rfl) ?_
              | refine awp_ret ?_
              | refine awp_exit ?_
              | refine thenA_exit ?_
              | refine thenA_ret ?_
              | refine blockA_normal ?_
              | refine blockA_ret ?_
              | refine blockA_hit rfl ?_
              | refine blockA_miss rfl ?_
              | refine awp_skip ?_
              | refine r_done ?_
              | refine r_done' ?_
              | (refine r_id ?_; first
                | refine r_len tab_ok rfl rfl rfl rfl rfl rfl rfl ?_
                | refine r_ev tab_ok rfl rfl rfl rfl (by first | exact trivial | exact ⟨by omega, by omega⟩ | omega | exact ⟨by omega, by omega, by omega, by omega⟩ | exact Nat.le_of_ble_eq_true rfl) rfl ?_
                | refine r_ld tab_ok rfl rfl rfl rfl rfl ?_
                | refine r_idx tab_ok rfl rfl rfl rfl rfl rfl rfl (by first | exact ⟨by omega, by omega⟩ | (simp; omega)) rfl rfl ?_
                | refine r_idxd tab_ok rfl rfl rfl rfl rfl rfl rfl (by decide) rfl rfl rfl ?_
                | refine r_wr tab_ok rfl rfl rfl rfl rfl ?_
                | refine r_st tab_ok rfl rfl rfl rfl ?_
                | refine r_len_cnd tab_ok rfl rfl rfl rfl rfl rfl (by first | exact fun _ => rfl | exact cs1) rfl rfl rfl ?_
                | refine r_ev_cnd tab_ok rfl rfl rfl rfl rfl rfl (by first | exact fun _ => rfl | exact cs1 | exact cs2 | exact cs3) (by first | exact fun _ => trivial | (intro h; simp at h; first | exact ⟨by omega, by omega⟩ | omega)) rfl ?_
                | refine r_ld_cnd tab_ok rfl rfl rfl rfl rfl rfl (by first | exact fun _ => rfl | exact cs1 | exact cs2 | exact cs3) rfl ?_
                | refine r_idx_cnd tab_ok rfl rfl rfl rfl rfl rfl rfl (by first | exact fun _ => rfl | exact cs1 | exact cs2) rfl rfl (by exact ⟨by omega, by omega⟩) rfl rfl ?_
                | refine r_idx_cnd' tab_ok rfl rfl rfl rfl rfl rfl rfl (by first | exact fun _ => rfl | exact cs1 | exact cs2) rfl rfl (by intro h; simp at h; exact ⟨by omega, by omega⟩) rfl rfl ?_
                | refine r_and_cnd rfl rfl rfl rfl rfl rfl rfl rfl rfl rfl ?_
                | refine r_or_cnd rfl rfl rfl rfl rfl rfl rfl rfl rfl rfl ?_
                | refine r_or rfl rfl rfl rfl rfl rfl rfl rfl ?_
                | refine r_and rfl rfl rfl rfl rfl rfl rfl rfl ?_
                | refine r_pick_t rfl rfl rfl rfl rfl rfl rfl ?_
                | refine r_pick_f rfl rfl rfl rfl rfl rfl rfl ?_
                | refine r_off rfl rfl rfl rfl rfl rfl ?_
                | refine r_len_on tab_ok rfl rfl rfl rfl rfl rfl rfl rfl rfl ?_
                | refine r_ev_on tab_ok rfl rfl rfl rfl rfl rfl (by first | exact trivial | exact ⟨by omega, by omega⟩ | omega) rfl ?_
                | refine r_ld_on tab_ok rfl rfl rfl rfl rfl rfl rfl ?_
                | refine r_build tab_ok rfl rfl rfl rfl rfl rfl ?_
                | refine r_bstr tab_ok rfl rfl rfl rfl rfl rfl rfl rfl rfl rfl ?_
                | refine r_build_cnd tab_ok rfl rfl rfl rfl rfl (by first | exact fun _ => rfl | exact cs1) rfl rfl rfl ?_
                | refine r_built_cnd tab_ok rfl rfl rfl rfl rfl rfl rfl rfl (by first | exact fun _ => rfl | exact cs1) rfl rfl rfl ?_
                | refine r_rem rfl rfl rfl rfl rfl rfl (by omega) rfl ?_
                | refine r_built0 tab_ok rfl rfl rfl rfl rfl rfl rfl ?_
                | refine r_built tab_ok rfl rfl rfl rfl rfl rfl rfl rfl rfl ?_
                | refine r_range tab_ok rfl rfl rfl rfl rfl rfl rfl ?_
                | refine r_next rfl rfl rfl rfl (by assumption) rfl rfl rfl ?_
                | refine r_next_end rfl rfl rfl rfl (by assumption) rfl rfl rfl ?_
                | refine r_nilck rfl rfl rfl rfl rfl rfl rfl ?_
                | refine r_rstr tab_ok rfl rfl rfl rfl rfl rfl rfl rfl ?_
                | refine r_rsstr tab_ok rfl rfl rfl rfl rfl rfl rfl rfl rfl rfl ?_
                | refine r_bstr' tab_ok rfl rfl rfl rfl rfl rfl rfl rfl rfl ?_
                | refine r_rowstr tab_ok rfl rfl rfl rfl rfl rfl rfl rfl rfl rfl ?_
                | refine r_strd tab_ok rfl rfl rfl rfl rfl rfl (by omega) rfl rfl rfl ?_
                | refine r_idxr tab_ok rfl rfl rfl rfl rfl rfl rfl rfl (by first | exact ⟨by omega, by omega⟩ | (simp; omega)) rfl ?_
                | refine r_lde tab_ok rfl rfl rfl rfl rfl (by omega) rfl rfl rfl rfl ?_
                | refine r_idxr_cnd tab_ok rfl rfl rfl rfl rfl rfl rfl rfl (by first | exact fun _ => rfl | exact cs1 | exact cs2) rfl rfl (by first | (intro _; exact ⟨by omega, by omega⟩) | (intro h; simp at h ⊢; omega)) rfl ?_
                | refine r_lde_cnd tab_ok rfl rfl rfl rfl rfl rfl rfl (by first | exact fun _ => rfl | exact cs1 | exact cs2) (by omega) rfl rfl rfl rfl ?_
                | refine r_cut tab_ok rfl rfl rfl rfl rfl rfl rfl rfl (by first | exact ⟨by simp, by simp; omega, by simp⟩ | (simp; omega)) rfl ?_
                | refine r_append tab_ok rfl rfl rfl rfl rfl rfl rfl rfl rfl (by first | omega | (simp; omega)) rfl ?_
                | refine r_append_nil tab_ok rfl rfl rfl rfl rfl rfl rfl rfl (by first | omega | (simp; omega)) rfl ?_)
              | refine ret1 (by first | exact .inl rfl | exact .inr rfl) rfl rfl rfl ?_
              | refine ret1_row (by first | exact .inl rfl | exact .inr rfl) rfl rfl rfl ?_
              | refine ret2 (by first | exact .inl rfl | exact .inr rfl) rfl rfl rfl rfl ?_ ?_
              | refine retM1 (by first | exact .inl rfl | exact .inr rfl) rfl rfl rfl rfl rfl ?_
              | exact retM0 (by first | exact .inl rfl | exact .inr rfl) rfl rfl rfl
              | refine awp_cond_t rfl ?_
              | refine awp_cond_f rfl ?_)
            refine r_call_cnd (fun _ => awake_ok) call7 rfl rfl rfl rfl (by first | exact fun _ => rfl | exact cs1 | exact cs2 | exact cs3) (by repeat' first | exact trivial | exact Sub.refl _ | exact Sub.nil _ | refine Sub.agg ?_ | apply And.intro) rfl rfl rfl rfl ?_
            repeat (first
              | refine awp_seq ?_
              | refine thenA_normal ?_
              | refine awp_block ?_
              | refine a_region ?_
              | refine a_draw1 mixed_ok (by kernel_rfl) ?_
              | refine awp_ret ?_
              | refine awp_exit ?_
              | refine thenA_exit ?_
              | refine thenA_ret ?_
              | refine blockA_normal ?_
              | refine blockA_ret ?_
              | refine blockA_hit rfl ?_
              | refine blockA_miss rfl ?_
              | refine awp_skip ?_
              | refine r_done ?_
              | refine r_done' ?_
              | (refine r_id ?_; first
                | refine r_len tab_ok rfl rfl rfl rfl rfl rfl rfl ?_
                | refine r_ev tab_ok rfl rfl rfl rfl (by first | exact trivial | exact ⟨by omega, by omega⟩ | omega | exact ⟨by omega, by omega, by omega, by omega⟩ | exact Nat.le_of_ble_eq_true rfl) rfl ?_
                | refine r_ld tab_ok rfl rfl rfl rfl rfl ?_
                | refine r_idx tab_ok rfl rfl rfl rfl rfl rfl rfl (by first | exact ⟨by omega, by omega⟩ | (simp; omega)) rfl rfl ?_
                | refine r_idxd tab_ok rfl rfl rfl rfl rfl rfl rfl (by decide) rfl rfl rfl ?_
                | refine r_wr tab_ok rfl rfl rfl rfl rfl ?_
                | refine r_st tab_ok rfl rfl rfl rfl ?_
                | refine r_len_cnd tab_ok rfl rfl rfl rfl rfl rfl (by first | exact fun _ => rfl | exact cs1) rfl rfl rfl ?_
                | refine r_ev_cnd tab_ok rfl rfl rfl rfl rfl rfl (by first | exact fun _ => rfl | exact cs1 | exact cs2 | exact cs3) (by first | exact fun _ => trivial | (intro h; simp at h; first | exact ⟨by omega, by omega⟩ | omega)) rfl ?_
                | refine r_ld_cnd tab_ok rfl rfl rfl rfl rfl rfl (by first | exact fun _ => rfl | exact cs1 | exact cs2 | exact cs3) rfl ?_
                | refine r_idx_cnd tab_ok rfl rfl rfl rfl rfl rfl rfl (by first | exact fun _ => rfl | exact cs1 | exact cs2) rfl rfl (by exact ⟨by omega, by omega⟩) rfl rfl ?_
                | refine r_idx_cnd' tab_ok rfl rfl rfl rfl rfl rfl rfl (by first | exact fun _ => rfl | exact cs1 | exact cs2) rfl rfl (by intro h; simp at h; exact ⟨by omega, by omega⟩) rfl rfl ?_
                | refine r_and_cnd rfl rfl rfl rfl rfl rfl rfl rfl rfl rfl ?_
                | refine r_or_cnd rfl rfl rfl rfl rfl rfl rfl rfl rfl rfl ?_
                | refine r_or rfl rfl rfl rfl rfl rfl rfl rfl ?_
                | refine r_and rfl rfl rfl rfl rfl rfl rfl rfl ?_
                | refine r_pick_t rfl rfl rfl rfl rfl rfl rfl ?_
                | refine r_pick_f rfl rfl rfl rfl rfl rfl rfl ?_
                | refine r_off rfl rfl rfl rfl rfl rfl ?_
                | refine r_len_on tab_ok rfl rfl rfl rfl rfl rfl rfl rfl rfl ?_
                | refine r_ev_on tab_ok rfl rfl rfl rfl rfl rfl (by first | exact trivial | exact ⟨by omega, by omega⟩ | omega) rfl ?_
                | refine r_ld_on tab_ok rfl rfl rfl rfl rfl rfl rfl ?_
                | refine r_build tab_ok rfl rfl rfl rfl rfl rfl ?_
                | refine r_bstr tab_ok rfl rfl rfl rfl rfl rfl rfl rfl rfl rfl ?_
                | refine r_build_cnd tab_ok rfl rfl rfl rfl rfl (by first | exact fun _ => rfl | exact cs1) rfl rfl rfl ?_
                | refine r_built_cnd tab_ok rfl rfl rfl rfl rfl rfl rfl rfl (by first | exact fun _ => rfl | exact cs1) rfl rfl rfl ?_
                | refine r_rem rfl rfl rfl rfl rfl rfl (by omega) rfl ?_
                | refine r_built0 tab_ok rfl rfl rfl rfl rfl rfl rfl ?_
                | refine r_built tab_ok rfl rfl rfl rfl rfl rfl rfl rfl rfl ?_
                | refine r_range tab_ok rfl rfl rfl rfl rfl rfl rfl ?_
                | refine r_next rfl rfl rfl rfl (by assumption) rfl rfl rfl ?_
                | refine r_next_end rfl rfl rfl rfl (by assumption) rfl rfl rfl ?_
                | refine r_nilck rfl rfl rfl rfl rfl rfl rfl ?_
                | refine r_rstr tab_ok rfl rfl rfl rfl rfl rfl rfl rfl ?_
                | refine r_rsstr tab_ok rfl rfl rfl rfl rfl rfl rfl rfl rfl rfl ?_
                | refine r_bstr' tab_ok rfl rfl rfl rfl rfl rfl rfl rfl rfl ?_
                | refine r_rowstr tab_ok rfl rfl rfl rfl rfl rfl rfl rfl rfl rfl ?_
                | refine r_strd tab_ok rfl rfl rfl rfl rfl rfl (by omega) rfl rfl rfl ?_
                | refine r_idxr tab_ok rfl rfl rfl rfl rfl rfl rfl rfl (by first | exact ⟨by omega, by omega⟩ | (simp; omega)) rfl ?_
                | refine r_lde tab_ok rfl rfl rfl rfl rfl (by omega) rfl rfl rfl rfl ?_
                | refine r_idxr_cnd tab_ok rfl rfl rfl rfl rfl rfl rfl rfl (by first | exact fun _ => rfl | exact cs1 | exact cs2) rfl rfl (by first | (intro _; exact ⟨by omega, by omega⟩) | (intro h; simp at h ⊢; omega)) rfl ?_
                | refine r_lde_cnd tab_ok rfl rfl rfl rfl rfl rfl rfl (by first | exact fun _ => rfl | exact cs1 | exact cs2) (by omega) rfl rfl rfl rfl ?_
                | refine r_cut tab_ok rfl rfl rfl rfl rfl rfl rfl rfl (by first | exact ⟨by simp, by simp; omega, by simp⟩ | (simp; omega)) rfl ?_
                | refine r_append tab_ok rfl rfl rfl rfl rfl rfl rfl rfl rfl (by first | omega | (simp; omega)) rfl ?_
                | refine r_append_nil tab_ok rfl rfl rfl rfl rfl rfl rfl rfl (by first | omega | (simp; omega)) rfl ?_)
              | refine ret1 (by first | exact .inl rfl | exact .inr rfl) rfl rfl rfl ?_
              | refine ret1_row (by first | exact .inl rfl | exact .inr rfl) rfl rfl rfl ?_
              | refine ret2 (by first | exact .inl rfl | exact .inr rfl) rfl rfl rfl rfl ?_ ?_
              | refine retM1 (by first | exact .inl rfl | exact .inr rfl) rfl rfl rfl rfl rfl ?_
              | exact retM0 (by first | exact .inl rfl | exact .inr rfl) rfl rfl rfl
              | refine awp_cond_t rfl ?_
              | refine awp_cond_f rfl ?_)
            exact Sub.of_eq rfl
          · rw [if_neg hb] at hres
            repeat (first
              | refine awp_seq ?_
              | refine thenA_normal ?_
              | refine awp_block ?_
              | refine a_region ?_
              | refine a_draw1 mixed_ok (by kernel_rfl) ?_
              | refine awp_ret ?_
              | refine awp_exit ?_
              | refine thenA_exit ?_
              | refine thenA_ret ?_
              | refine blockA_normal ?_
              | refine blockA_ret ?_
              | refine blockA_hit rfl ?_
              | refine blockA_miss rfl ?_
              | refine awp_skip ?_
              | refine r_done ?_
              | refine r_done' ?_
              | (refine r_id ?_; first
                | refine r_len tab_ok rfl rfl rfl rfl rfl rfl rfl ?_
                | refine r_ev tab_ok rfl rfl rfl rfl (by first | exact trivial | exact ⟨by omega, by omega⟩ | omega | exact ⟨by omega, by omega, by omega, by omega⟩ | exact Nat.le_of_ble_eq_true rfl) rfl ?_
                | refine r_ld tab_ok rfl rfl rfl rfl rfl ?_
                | refine r_idx tab_ok rfl rfl rfl rfl rfl rfl rfl (by first | exact ⟨by omega, by omega⟩ | (simp; omega)) rfl rfl ?_
                | refine r_idxd tab_ok rfl rfl rfl rfl rfl rfl rfl (by decide) rfl rfl rfl ?_
                | refine r_wr tab_ok rfl rfl rfl rfl rfl ?_
                | refine r_st tab_ok rfl rfl rfl rfl ?_
                | refine r_len_cnd tab_ok rfl rfl rfl rfl rfl rfl (by first | exact fun _ => rfl | exact cs1) rfl rfl rfl ?_
                | refine r_ev_cnd tab_ok rfl rfl rfl rfl rfl rfl (by first | exact fun _ => rfl | exact cs1 | exact cs2 | exact cs3) (by first | exact fun _ => trivial | (intro h; simp at h; first | exact ⟨by omega, by omega⟩ | omega)) rfl ?_
                | refine r_ld_cnd tab_ok rfl rfl rfl rfl rfl rfl (by first | exact fun _ => rfl | exact cs1 | exact cs2 | exact cs3) rfl ?_
                | refine r_idx_cnd tab_ok rfl rfl rfl rfl rfl rfl rfl (by first | exact fun _ => rfl | exact cs1 | exact cs2) rfl rfl (by exact ⟨by omega, by omega⟩) rfl rfl ?_
                | refine r_idx_cnd' tab_ok rfl rfl rfl rfl rfl rfl rfl (by first | exact fun _ => rfl | exact cs1 | exact cs2) rfl rfl (by intro h; simp at h; exact ⟨by omega, by omega⟩) rfl rfl ?_
                | refine r_and_cnd rfl rfl rfl rfl rfl rfl rfl rfl rfl rfl ?_
                | refine r_or_cnd rfl rfl rfl rfl rfl rfl rfl rfl rfl rfl ?_
                | refine r_or rfl rfl rfl rfl rfl rfl rfl rfl ?_
                | refine r_and rfl rfl rfl rfl rfl rfl rfl rfl ?_
                | refine r_pick_t rfl rfl rfl rfl rfl rfl rfl ?_
                | refine r_pick_f rfl rfl rfl rfl rfl rfl rfl ?_
                | refine r_off rfl rfl rfl rfl rfl rfl ?_
                | refine r_len_on tab_ok rfl rfl rfl rfl rfl rfl rfl rfl rfl ?_
                | refine r_ev_on tab_ok rfl rfl rfl rfl rfl rfl (by first | exact trivial | exact ⟨by omega, by omega⟩ | omega) rfl ?_
                | refine r_ld_on tab_ok rfl rfl rfl rfl rfl rfl rfl ?_
                | refine r_build tab_ok rfl rfl rfl rfl rfl rfl ?_
                | refine r_bstr tab_ok rfl rfl rfl rfl rfl rfl rfl rfl rfl rfl ?_
                | refine r_build_cnd tab_ok rfl rfl rfl rfl rfl (by first | exact fun _ => rfl | exact cs1) rfl rfl rfl ?_
                | refine r_built_cnd tab_ok rfl rfl rfl rfl rfl rfl rfl rfl (by first | exact fun _ => rfl | exact cs1) rfl rfl rfl ?_
                | refine r_rem rfl rfl rfl rfl rfl rfl (by omega) rfl ?_
                | refine r_built0 tab_ok rfl rfl rfl rfl rfl rfl rfl ?_
                | refine r_built tab_ok rfl rfl rfl rfl rfl rfl rfl rfl rfl ?_
                | refine r_range tab_ok rfl rfl rfl rfl rfl rfl rfl ?_
                | refine r_next rfl rfl rfl rfl (by assumption) rfl rfl rfl ?_
                | refine r_next_end rfl rfl rfl rfl (by assumption) rfl rfl rfl ?_
                | refine r_nilck rfl rfl rfl rfl rfl rfl rfl ?_
                | refine r_rstr tab_ok rfl rfl rfl rfl rfl rfl rfl rfl ?_
                | refine r_rsstr tab_ok rfl rfl rfl rfl rfl rfl rfl rfl rfl rfl ?_
                | refine r_bstr' tab_ok rfl rfl rfl rfl rfl rfl rfl rfl rfl ?_
                | refine r_rowstr tab_ok rfl rfl rfl rfl rfl rfl rfl rfl rfl rfl ?_
                | refine r_strd tab_ok rfl rfl rfl rfl rfl rfl (by omega) rfl rfl rfl ?_
                | refine r_idxr tab_ok rfl rfl rfl rfl rfl rfl rfl rfl (by first | exact ⟨by omega, by omega⟩ | (simp; omega)) rfl ?_
                | refine r_lde tab_ok rfl rfl rfl rfl rfl (by omega) rfl rfl rfl rfl ?_
                | refine r_idxr_cnd tab_ok rfl rfl rfl rfl rfl rfl rfl rfl (by first | exact fun _ => rfl | exact cs1 | exact cs2) rfl rfl (by first | (intro _; exact ⟨by omega, by omega⟩) | (intro h; simp at h ⊢; omega)) rfl ?_
                | refine r_lde_cnd tab_ok rfl rfl rfl rfl rfl rfl rfl (by first | exact fun _ => rfl | exact cs1 | exact cs2) (by omega) rfl rfl rfl rfl ?_
                | refine r_cut tab_ok rfl rfl rfl rfl rfl rfl rfl rfl (by first | exact ⟨by simp, by simp; omega, by simp⟩ | (simp; omega)) rfl ?_
                | refine r_append tab_ok rfl rfl rfl rfl rfl rfl rfl rfl rfl (by first | omega | (simp; omega)) rfl ?_
                | refine r_append_nil tab_ok rfl rfl rfl rfl rfl rfl rfl rfl (by first | omega | (simp; omega)) rfl ?_)
              | refine ret1 (by first | exact .inl rfl | exact .inr rfl) rfl rfl rfl ?_
              | refine ret1_row (by first | exact .inl rfl | exact .inr rfl) rfl rfl rfl ?_
              | refine ret2 (by first | exact .inl rfl | exact .inr rfl) rfl rfl rfl rfl ?_ ?_
              | refine retM1 (by first | exact .inl rfl | exact .inr rfl) rfl rfl rfl rfl rfl ?_
              | exact retM0 (by first | exact .inl rfl | exact .inr rfl) rfl rfl rfl
              | refine awp_cond_t rfl ?_
              | refine awp_cond_f rfl ?_)
            refine awp_cond rfl (fun hg => ?_) (fun hg => ?_)
            · rw [if_neg (by intro h; have hg : (!goodF ((m + 1 : Nat) : Int) tag text (j : Int) value) = true := hg; rw [h] at hg; cases hg)] at hres
              rw [hres]
              repeat (first
                | refine awp_seq ?_
                | refine thenA_normal ?_
                | refine awp_block ?_
                | refine a_region ?_
                | refine a_draw1 mixed_ok (by kernel_rfl) ?_
                | refine awp_ret ?_
                | refine awp_exit ?_
                | refine thenA_exit ?_
                | refine thenA_ret ?_
                | refine blockA_normal ?_
                | refine blockA_ret ?_
                | refine blockA_hit rfl ?_
                | refine blockA_miss rfl ?_
                | refine awp_skip ?_
                | refine r_done ?_
                | refine r_done' ?_
                | (refine r_id ?_; first
                  | refine r_len tab_ok rfl rfl rfl rfl rfl rfl rfl ?_
                  | refine r_ev tab_ok rfl rfl rfl rfl (by first | exact trivial | exact ⟨by omega, by omega⟩ | omega | exact ⟨by omega, by omega, by omega, by omega⟩ | exact Nat.le_of_ble_eq_true rfl) rfl ?_
                  | refine r_ld tab_ok rfl rfl rfl rfl rfl ?_
                  | refine r_idx tab_ok rfl rfl rfl rfl rfl rfl rfl (by first | exact ⟨by omega, by omega⟩ | (simp; omega)) rfl rfl ?_
                  | refine r_idxd tab_ok rfl rfl rfl rfl rfl rfl rfl (by decide) rfl rfl rfl ?_
                  | refine r_wr tab_ok rfl rfl rfl rfl rfl ?_
                  | refine r_st tab_ok rfl rfl rfl rfl ?_
                  | refine r_len_cnd tab_ok rfl rfl rfl rfl rfl rfl (by first | exact fun _ => rfl | exact cs1) rfl rfl rfl ?_
                  | refine r_ev_cnd tab_ok rfl rfl rfl rfl rfl rfl (by first | exact fun _ => rfl | exact cs1 | exact cs2 | exact cs3) (by first | exact fun _ => trivial | (intro h; simp at h; first | exact ⟨by omega, by omega⟩ | omega)) rfl ?_
                  | refine r_ld_cnd tab_ok rfl rfl rfl rfl rfl rfl (by first | exact fun _ => rfl | exact cs1 | exact cs2 | exact cs3) rfl ?_
                  | refine r_idx_cnd tab_ok rfl rfl rfl rfl rfl rfl rfl (by first | exact fun _ => rfl | exact cs1 | exact cs2) rfl rfl (by exact ⟨by omega, by omega⟩) rfl rfl ?_
                  | refine r_idx_cnd' tab_ok rfl rfl rfl rfl rfl rfl rfl (by first | exact fun _ => rfl | exact cs1 | exact cs2) rfl rfl (by intro h; simp at h; exact ⟨by omega, by omega⟩) rfl rfl ?_
                  | refine r_and_cnd rfl rfl rfl rfl rfl rfl rfl rfl rfl rfl ?_
                  | refine r_or_cnd rfl rfl rfl rfl rfl rfl rfl rfl rfl rfl ?_
                  | refine r_or rfl rfl rfl rfl rfl rfl rfl rfl ?_
                  | refine r_and rfl rfl rfl rfl rfl rfl rfl rfl ?_
                  | refine r_pick_t rfl rfl rfl rfl rfl rfl rfl ?_
                  | refine r_pick_f rfl rfl rfl rfl rfl rfl rfl ?_
                  | refine r_off rfl rfl rfl rfl rfl rfl ?_
                  | refine r_len_on tab_ok rfl rfl rfl rfl rfl rfl rfl rfl rfl ?_
                  | refine r_ev_on tab_ok rfl rfl rfl rfl rfl rfl (by first | exact trivial | exact ⟨by omega, by omega⟩ | omega) rfl ?_
                  | refine r_ld_on tab_ok rfl rfl rfl rfl rfl rfl rfl ?_
                  | refine r_build tab_ok rfl rfl rfl rfl rfl rfl ?_
                  | refine r_bstr tab_ok rfl rfl rfl rfl rfl rfl rfl rfl rfl rfl ?_
                  | refine r_build_cnd tab_ok rfl rfl rfl rfl rfl (by first | exact fun _ => rfl | exact cs1) rfl rfl rfl ?_
                  | refine r_built_cnd tab_ok rfl rfl rfl rfl rfl rfl rfl rfl (by first | exact fun _ => rfl | exact cs1) rfl rfl rfl ?_
                  | refine r_rem rfl rfl rfl rfl rfl rfl (by omega) rfl ?_
                  | refine r_built0 tab_ok rfl rfl rfl rfl rfl rfl rfl ?_
                  | refine r_built tab_ok rfl rfl rfl rfl rfl rfl rfl rfl rfl ?_
                  | refine r_range tab_ok rfl rfl rfl rfl rfl rfl rfl ?_
                  | refine r_next rfl rfl rfl rfl (by assumption) rfl rfl rfl ?_
                  | refine r_next_end rfl rfl rfl rfl (by assumption) rfl rfl rfl ?_
                  | refine r_nilck rfl rfl rfl rfl rfl rfl rfl ?_
                  | refine r_rstr tab_ok rfl rfl rfl rfl rfl rfl rfl rfl ?_
                  | refine r_rsstr tab_ok rfl rfl rfl rfl rfl rfl rfl rfl rfl rfl ?_
                  | refine r_bstr' tab_ok rfl rfl rfl rfl rfl rfl rfl rfl rfl ?_
                  | refine r_rowstr tab_ok rfl rfl rfl rfl rfl rfl rfl rfl rfl rfl ?_
                  | refine r_strd tab_ok rfl rfl rfl rfl rfl rfl (by omega) rfl rfl rfl ?_
                  | refine r_idxr tab_ok rfl rfl rfl rfl rfl rfl rfl rfl (by first | exact ⟨by omega, by omega⟩ | (simp; omega)) rfl ?_
                  | refine r_lde tab_ok rfl rfl rfl rfl rfl (by omega) rfl rfl rfl rfl ?_
                  | refine r_idxr_cnd tab_ok rfl rfl rfl rfl rfl rfl rfl rfl (by first | exact fun _ => rfl | exact cs1 | exact cs2) rfl rfl (by first | (intro _; exact ⟨by omega, by omega⟩) | (intro h; simp at h ⊢; omega)) rfl ?_
                  | refine r_lde_cnd tab_ok rfl rfl rfl rfl rfl rfl rfl (by first | exact fun _ => rfl | exact cs1 | exact cs2) (by omega) rfl rfl rfl rfl ?_
                  | refine r_cut tab_ok rfl rfl rfl rfl rfl rfl rfl rfl (by first | exact ⟨by simp, by simp; omega, by simp⟩ | (simp; omega)) rfl ?_
                  | refine r_append tab_ok rfl rfl rfl rfl rfl rfl rfl rfl rfl (by first | omega | (simp; omega)) rfl ?_
                  | refine r_append_nil tab_ok rfl rfl rfl rfl rfl rfl rfl rfl (by first | omega | (simp; omega)) rfl ?_)
                | refine ret1 (by first | exact .inl rfl | exact .inr rfl) rfl rfl rfl ?_
                | refine ret1_row (by first | exact .inl rfl | exact .inr rfl) rfl rfl rfl ?_
                | refine ret2 (by first | exact .inl rfl | exact .inr rfl) rfl rfl rfl rfl ?_ ?_
                | refine retM1 (by first | exact .inl rfl | exact .inr rfl) rfl rfl rfl rfl rfl ?_
                | exact retM0 (by first | exact .inl rfl | exact .inr rfl) rfl rfl rfl
                | refine awp_cond_t rfl ?_
                | refine awp_cond_f rfl ?_)
              refine r_call_cnd (fun _ => refInput_ok bytes ((List.range m).map rawR ++ [lastR m j tag text value])) call9 rfl rfl rfl rfl (by first | exact fun _ => rfl | exact cs1 | exact cs2 | exact cs3) ⟨Sub.refl _, sub_table m j tag text value, trivial⟩ rfl rfl rfl rfl ?_
              rw [hres]
              repeat (first
                | refine awp_seq ?_
                | refine thenA_normal ?_
                | refine awp_block ?_
                | refine a_region ?_
                | refine a_draw1 mixed_ok (by kernel_rfl) ?_
                | refine awp_ret ?_
                | refine awp_exit ?_
                | refine thenA_exit ?_
                | refine thenA_ret ?_
                | refine blockA_normal ?_
                | refine blockA_ret ?_
                | refine blockA_hit rfl ?_
                | refine blockA_miss rfl ?_
                | refine awp_skip ?_
                | refine r_done ?_
                | refine r_done' ?_
                | (refine r_id ?_; first
                  | refine r_len tab_ok rfl rfl rfl rfl rfl rfl rfl ?_
                  | refine r_ev tab_ok rfl rfl rfl rfl (by first | exact trivial | exact ⟨by omega, by omega⟩ | omega | exact ⟨by omega, by omega, by omega, by omega⟩ | exact Nat.le_of_ble_eq_true rfl) rfl ?_
                  | refine r_ld tab_ok rfl rfl rfl rfl rfl ?_
                  | refine r_idx tab_ok rfl rfl rfl rfl rfl rfl rfl (by first | exact ⟨by omega, by omega⟩ | (simp; omega)) rfl rfl ?_
                  | refine r_idxd tab_ok rfl rfl rfl rfl rfl rfl rfl (by decide) rfl rfl rfl ?_
                  | refine r_wr tab_ok rfl rfl rfl rfl rfl ?_
                  | refine r_st tab_ok rfl rfl rfl rfl ?_
                  | refine r_len_cnd tab_ok rfl rfl rfl rfl rfl rfl (by first | exact fun _ => rfl | exact cs1) rfl rfl rfl ?_
                  | refine r_ev_cnd tab_ok rfl rfl rfl rfl rfl rfl (by first | exact fun _ => rfl | exact cs1 | exact cs2 | exact cs3) (by first | exact fun _ => trivial | (intro h; simp at h; first | exact ⟨by omega, by omega⟩ | omega)) rfl ?_
                  | refine r_ld_cnd tab_ok rfl rfl rfl rfl rfl rfl (by first | exact fun _ => rfl | exact cs1 | exact cs2 | exact cs3) rfl ?_
                  | refine r_idx_cnd tab_ok rfl rfl rfl rfl rfl rfl rfl (by first | exact fun _ => rfl | exact cs1 | exact cs2) rfl rfl (by exact ⟨by omega, by omega⟩) rfl rfl ?_
                  | refine r_idx_cnd' tab_ok rfl rfl rfl rfl rfl rfl rfl (by first | exact fun _ => rfl | exact cs1 | exact cs2) rfl rfl (by intro h; simp at h; exact ⟨by omega, by omega⟩) rfl rfl ?_
                  | refine r_and_cnd rfl rfl rfl rfl rfl rfl rfl rfl rfl rfl ?_
                  | refine r_or_cnd rfl rfl rfl rfl rfl rfl rfl rfl rfl rfl ?_
                  | refine r_or rfl rfl rfl rfl rfl rfl rfl rfl ?_
                  | refine r_and rfl rfl rfl rfl rfl rfl rfl rfl ?_
                  | refine r_pick_t rfl rfl rfl rfl rfl rfl rfl ?_
                  | refine r_pick_f rfl rfl rfl rfl rfl rfl rfl ?_
                  | refine r_off rfl rfl rfl rfl rfl rfl ?_
                  | refine r_len_on tab_ok rfl rfl rfl rfl rfl rfl rfl rfl rfl ?_
                  | refine r_ev_on tab_ok rfl rfl rfl rfl rfl rfl (by first | exact trivial | exact ⟨by omega, by omega⟩ | omega) rfl ?_
                  | refine r_ld_on tab_ok rfl rfl rfl rfl rfl rfl rfl ?_
                  | refine r_build tab_ok rfl rfl rfl rfl rfl rfl ?_
                  | refine r_bstr tab_ok rfl rfl rfl rfl rfl rfl rfl rfl rfl rfl ?_
                  | refine r_build_cnd tab_ok rfl rfl rfl rfl rfl (by first | exact fun _ => rfl | exact cs1) rfl rfl rfl ?_
                  | refine r_built_cnd tab_ok rfl rfl rfl rfl rfl rfl rfl rfl (by first | exact fun _ => rfl | exact cs1) rfl rfl rfl ?_
                  | refine r_rem rfl rfl rfl rfl rfl rfl (by omega) rfl ?_
                  | refine r_built0 tab_ok rfl rfl rfl rfl rfl rfl rfl ?_
                  | refine r_built tab_ok rfl rfl rfl rfl rfl rfl rfl rfl rfl ?_
                  | refine r_range tab_ok rfl rfl rfl rfl rfl rfl rfl ?_
                  | refine r_next rfl rfl rfl rfl (by assumption) rfl rfl rfl ?_
                  | refine r_next_end rfl rfl rfl rfl (by assumption) rfl rfl rfl ?_
                  | refine r_nilck rfl rfl rfl rfl rfl rfl rfl ?_
                  | refine r_rstr tab_ok rfl rfl rfl rfl rfl rfl rfl rfl ?_
                  | refine r_rsstr tab_ok rfl rfl rfl rfl rfl rfl rfl rfl rfl rfl ?_
                  | refine r_bstr' tab_ok rfl rfl rfl rfl rfl rfl rfl rfl rfl ?_
                  | refine r_rowstr tab_ok rfl rfl rfl rfl rfl rfl rfl rfl rfl rfl ?_
                  | refine r_strd tab_ok rfl rfl rfl rfl rfl rfl (by omega) rfl rfl rfl ?_
                  | refine r_idxr tab_ok rfl rfl rfl rfl rfl rfl rfl rfl (by first | exact ⟨by omega, by omega⟩ | (simp; omega)) rfl ?_
                  | refine r_lde tab_ok rfl rfl rfl rfl rfl (by omega) rfl rfl rfl rfl ?_
                  | refine r_idxr_cnd tab_ok rfl rfl rfl rfl rfl rfl rfl rfl (by first | exact fun _ => rfl | exact cs1 | exact cs2) rfl rfl (by first | (intro _; exact ⟨by omega, by omega⟩) | (intro h; simp at h ⊢; omega)) rfl ?_
                  | refine r_lde_cnd tab_ok rfl rfl rfl rfl rfl rfl rfl (by first | exact fun _ => rfl | exact cs1 | exact cs2) (by omega) rfl rfl rfl rfl ?_
                  | refine r_cut tab_ok rfl rfl rfl rfl rfl rfl rfl rfl (by first | exact ⟨by simp, by simp; omega, by simp⟩ | (simp; omega)) rfl ?_
                  | refine r_append tab_ok rfl rfl rfl rfl rfl rfl rfl rfl rfl (by first | omega | (simp; omega)) rfl ?_
                  | refine r_append_nil tab_ok rfl rfl rfl rfl rfl rfl rfl rfl (by first | omega | (simp; omega)) rfl ?_)
                | refine ret1 (by first | exact .inl rfl | exact .inr rfl) rfl rfl rfl ?_
                | refine ret1_row (by first | exact .inl rfl | exact .inr rfl) rfl rfl rfl ?_
                | refine ret2 (by first | exact .inl rfl | exact .inr rfl) rfl rfl rfl rfl ?_ ?_
                | refine retM1 (by first | exact .inl rfl | exact .inr rfl) rfl rfl rfl rfl rfl ?_
                | exact retM0 (by first | exact .inl rfl | exact .inr rfl) rfl rfl rfl
                | refine awp_cond_t rfl ?_
                | refine awp_cond_f rfl ?_)
              refine r_call_cnd (fun _ => awake_ok) call7 rfl rfl rfl rfl (by first | exact fun _ => rfl | exact cs1 | exact cs2 | exact cs3) (by repeat' first | exact trivial | exact Sub.refl _ | exact Sub.nil _ | refine Sub.agg ?_ | apply And.intro) rfl rfl rfl rfl ?_
              repeat (first
                | refine awp_seq ?_
                | refine thenA_normal ?_
                | refine awp_block ?_
                | refine a_region ?_
                | refine a_draw1 mixed_ok (by kernel_rfl) ?_
                | refine awp_ret ?_
                | refine awp_exit ?_
                | refine thenA_exit ?_
                | refine thenA_ret ?_
                | refine blockA_normal ?_
                | refine blockA_ret ?_
                | refine blockA_hit rfl ?_
                | refine blockA_miss rfl ?_
                | refine awp_skip ?_
                | refine r_done ?_
                | refine r_done' ?_
                | (refine r_id ?_; first
                  | refine r_len tab_ok rfl rfl rfl rfl rfl rfl rfl ?_
                  | refine r_ev tab_ok rfl rfl rfl rfl (by first | exact trivial | exact ⟨by omega, by omega⟩ | omega | exact ⟨by omega, by omega, by omega, by omega⟩ | exact Nat.le_of_ble_eq_true rfl) rfl ?_
                  | refine r_ld tab_ok rfl rfl rfl rfl rfl ?_
                  | refine r_idx tab_ok rfl rfl rfl rfl rfl rfl rfl (by first | exact ⟨by omega, by omega⟩ | (simp; omega)) rfl rfl ?_
                  | refine r_idxd tab_ok rfl rfl rfl rfl rfl rfl rfl (by decide) rfl rfl rfl ?_
                  | refine r_wr tab_ok rfl rfl rfl rfl rfl ?_
                  | refine r_st tab_ok rfl rfl rfl rfl ?_
                  | refine r_len_cnd tab_ok rfl rfl rfl rfl rfl rfl (by first | exact fun _ => rfl | exact cs1) rfl rfl rfl ?_
                  | refine r_ev_cnd tab_ok rfl rfl rfl rfl rfl rfl (by first | exact fun _ => rfl | exact cs1 | exact cs2 | exact cs3) (by first | exact fun _ => trivial | (intro h; simp at h; first | exact ⟨by omega, by omega⟩ | omega)) rfl ?_
                  | refine r_ld_cnd tab_ok rfl rfl rfl rfl rfl rfl (by first | exact fun _ => rfl | exact cs1 | exact cs2 | exact cs3) rfl ?_
                  | refine r_idx_cnd tab_ok rfl rfl rfl rfl rfl rfl rfl (by first | exact fun _ => rfl | exact cs1 | exact cs2) rfl rfl (by exact ⟨by omega, by omega⟩) rfl rfl ?_
                  | refine r_idx_cnd' tab_ok rfl rfl rfl rfl rfl rfl rfl (by first | exact fun _ => rfl | exact cs1 | exact cs2) rfl rfl (by intro h; simp at h; exact ⟨by omega, by omega⟩) rfl rfl ?_
                  | refine r_and_cnd rfl rfl rfl rfl rfl rfl rfl rfl rfl rfl ?_
                  | refine r_or_cnd rfl rfl rfl rfl rfl rfl rfl rfl rfl rfl ?_
                  | refine r_or rfl rfl rfl rfl rfl rfl rfl rfl ?_
                  | refine r_and rfl rfl rfl rfl rfl rfl rfl rfl ?_
                  | refine r_pick_t rfl rfl rfl rfl rfl rfl rfl ?_
                  | refine r_pick_f rfl rfl rfl rfl rfl rfl rfl ?_
                  | refine r_off rfl rfl rfl rfl rfl rfl ?_
                  | refine r_len_on tab_ok rfl rfl rfl rfl rfl rfl rfl rfl rfl ?_
                  | refine r_ev_on tab_ok rfl rfl rfl rfl rfl rfl (by first | exact trivial | exact ⟨by omega, by omega⟩ | omega) rfl ?_
                  | refine r_ld_on tab_ok rfl rfl rfl rfl rfl rfl rfl ?_
                  | refine r_build tab_ok rfl rfl rfl rfl rfl rfl ?_
                  | refine r_bstr tab_ok rfl rfl rfl rfl rfl rfl rfl rfl rfl rfl ?_
                  | refine r_build_cnd tab_ok rfl rfl rfl rfl rfl (by first | exact fun _ => rfl | exact cs1) rfl rfl rfl ?_
                  | refine r_built_cnd tab_ok rfl rfl rfl rfl rfl rfl rfl rfl (by first | exact fun _ => rfl | exact cs1) rfl rfl rfl ?_
                  | refine r_rem rfl rfl rfl rfl rfl rfl (by omega) rfl ?_
                  | refine r_built0 tab_ok rfl rfl rfl rfl rfl rfl rfl ?_
                  | refine r_built tab_ok rfl rfl rfl rfl rfl rfl rfl rfl rfl ?_
                  | refine r_range tab_ok rfl rfl rfl rfl rfl rfl rfl ?_
                  | refine r_next rfl rfl rfl rfl (by assumption) rfl rfl rfl ?_
                  | refine r_next_end rfl rfl rfl rfl (by assumption) rfl rfl rfl ?_
                  | refine r_nilck rfl rfl rfl rfl rfl rfl rfl ?_
                  | refine r_rstr tab_ok rfl rfl rfl rfl rfl rfl rfl rfl ?_
                  | refine r_rsstr tab_ok rfl rfl rfl rfl rfl rfl rfl rfl rfl rfl ?_
                  | refine r_bstr' tab_ok rfl rfl rfl rfl rfl rfl rfl rfl rfl ?_
                  | refine r_rowstr tab_ok rfl rfl rfl rfl rfl rfl rfl rfl rfl rfl ?_
                  | refine r_strd tab_ok rfl rfl rfl rfl rfl rfl (by omega) rfl rfl rfl ?_
                  | refine r_idxr tab_ok rfl rfl rfl rfl rfl rfl rfl rfl (by first | exact ⟨by omega, by omega⟩ | (simp; omega)) rfl ?_
                  | refine r_lde tab_ok rfl rfl rfl rfl rfl (by omega) rfl rfl rfl rfl ?_
                  | refine r_idxr_cnd tab_ok rfl rfl rfl rfl rfl rfl rfl rfl (by first | exact fun _ => rfl | exact cs1 | exact cs2) rfl rfl (by first | (intro _; exact ⟨by omega, by omega⟩) | (intro h; simp at h ⊢; omega)) rfl ?_
                  | refine r_lde_cnd tab_ok rfl rfl rfl rfl rfl rfl rfl (by first | exact fun _ => rfl | exact cs1 | exact cs2) (by omega) rfl rfl rfl rfl ?_
                  | refine r_cut tab_ok rfl rfl rfl rfl rfl rfl rfl rfl (by first | exact ⟨by simp, by simp; omega, by simp⟩ | (simp; omega)) rfl ?_
                  | refine r_append tab_ok rfl rfl rfl rfl rfl rfl rfl rfl rfl (by first | omega | (simp; omega)) rfl ?_
                  | refine r_append_nil tab_ok rfl rfl rfl rfl rfl rfl rfl rfl (by first | omega | (simp; omega)) rfl ?_)
                | refine ret1 (by first | exact .inl rfl | exact .inr rfl) rfl rfl rfl ?_
                | refine ret1_row (by first | exact .inl rfl | exact .inr rfl) rfl rfl rfl ?_
                | refine ret2 (by first | exact .inl rfl | exact .inr rfl) rfl rfl rfl rfl ?_ ?_
                | refine retM1 (by first | exact .inl rfl | exact .inr rfl) rfl rfl rfl rfl rfl ?_
                | exact retM0 (by first | exact .inl rfl | exact .inr rfl) rfl rfl rfl
                | refine awp_cond_t rfl ?_
                | refine awp_cond_f rfl ?_)
              exact Sub.of_eq rfl
            · rw [if_pos (by have hg : (!goodF ((m + 1 : Nat) : Int) tag text (j : Int) value) = false := hg; simpa using hg)] at hres
              rw [hres]
              repeat (first
                | refine awp_seq ?_
                | refine thenA_normal ?_
                | refine awp_block ?_
                | refine a_region ?_
                | refine a_draw1 mixed_ok (by kernel_rfl) ?_
                | refine awp_ret ?_
                | refine awp_exit ?_
                | refine thenA_exit ?_
                | refine thenA_ret ?_
                | refine blockA_normal ?_
                | refine blockA_ret ?_
                | refine blockA_hit rfl ?_
                | refine blockA_miss rfl ?_
                | refine awp_skip ?_
                | refine r_done ?_
                | refine r_done' ?_
                | (refine r_id ?_; first
                  | refine r_len tab_ok rfl rfl rfl rfl rfl rfl rfl ?_
                  | refine r_ev tab_ok rfl rfl rfl rfl (by first | exact trivial | exact ⟨by omega, by omega⟩ | omega | exact ⟨by omega, by omega, by omega, by omega⟩ | exact Nat.le_of_ble_eq_true rfl) rfl ?_
                  | refine r_ld tab_ok rfl rfl rfl rfl rfl ?_
                  | refine r_idx tab_ok rfl rfl rfl rfl rfl rfl rfl (by first | exact ⟨by omega, by omega⟩ | (simp; omega)) rfl rfl ?_
                  | refine r_idxd tab_ok rfl rfl rfl rfl rfl rfl rfl (by decide) rfl rfl rfl ?_
                  | refine r_wr tab_ok rfl rfl rfl rfl rfl ?_
                  | refine r_st tab_ok rfl rfl rfl rfl ?_
                  | refine r_len_cnd tab_ok rfl rfl rfl rfl rfl rfl (by first | exact fun _ => rfl | exact cs1) rfl rfl rfl ?_
                  | refine r_ev_cnd tab_ok rfl rfl rfl rfl rfl rfl (by first | exact fun _ => rfl | exact cs1 | exact cs2 | exact cs3) (by first | exact fun _ => trivial | (intro h; simp at h; first | exact ⟨by omega, by omega⟩ | omega)) rfl ?_
                  | refine r_ld_cnd tab_ok rfl rfl rfl rfl rfl rfl (by first | exact fun _ => rfl | exact cs1 | exact cs2 | exact cs3) rfl ?_
                  | refine r_idx_cnd tab_ok rfl rfl rfl rfl rfl rfl rfl (by first | exact fun _ => rfl | exact cs1 | exact cs2) rfl rfl (by exact ⟨by omega, by omega⟩) rfl rfl ?_
                  | refine r_idx_cnd' tab_ok rfl rfl rfl rfl rfl rfl rfl (by first | exact fun _ => rfl | exact cs1 | exact cs2) rfl rfl (by intro h; simp at h; exact ⟨by omega, by omega⟩) rfl rfl ?_
                  | refine r_and_cnd rfl rfl rfl rfl rfl rfl rfl rfl rfl rfl ?_
                  | refine r_or_cnd rfl rfl rfl rfl rfl rfl rfl rfl rfl rfl ?_
                  | refine r_or rfl rfl rfl rfl rfl rfl rfl rfl ?_
                  | refine r_and rfl rfl rfl rfl rfl rfl rfl rfl ?_
                  | refine r_pick_t rfl rfl rfl rfl rfl rfl rfl ?_
                  | refine r_pick_f rfl rfl rfl rfl rfl rfl rfl ?_
                  | refine r_off rfl rfl rfl rfl rfl rfl ?_
                  | refine r_len_on tab_ok rfl rfl rfl rfl rfl rfl rfl rfl rfl ?_
                  | refine r_ev_on tab_ok rfl rfl rfl rfl rfl rfl (by first | exact trivial | exact ⟨by omega, by omega⟩ | omega) rfl ?_
                  | refine r_ld_on tab_ok rfl rfl rfl rfl rfl rfl rfl ?_
                  | refine r_build tab_ok rfl rfl rfl rfl rfl rfl ?_
                  | refine r_bstr tab_ok rfl rfl rfl rfl rfl rfl rfl rfl rfl rfl ?_
                  | refine r_build_cnd tab_ok rfl rfl rfl rfl rfl (by first | exact fun _ => rfl | exact cs1) rfl rfl rfl ?_
                  | refine r_built_cnd tab_ok rfl rfl rfl rfl rfl rfl rfl rfl (by first | exact fun _ => rfl | exact cs1) rfl rfl rfl ?_
                  | refine r_rem rfl rfl rfl rfl rfl rfl (by omega) rfl ?_
                  | refine r_built0 tab_ok rfl rfl rfl rfl rfl rfl rfl ?_
                  | refine r_built tab_ok rfl rfl rfl rfl rfl rfl rfl rfl rfl ?_
                  | refine r_range tab_ok rfl rfl rfl rfl rfl rfl rfl ?_
                  | refine r_next rfl rfl rfl rfl (by assumption) rfl rfl rfl ?_
                  | refine r_next_end rfl rfl rfl rfl (by assumption) rfl rfl rfl ?_
                  | refine r_nilck rfl rfl rfl rfl rfl rfl rfl ?_
                  | refine r_rstr tab_ok rfl rfl rfl rfl rfl rfl rfl rfl ?_
                  | refine r_rsstr tab_ok rfl rfl rfl rfl rfl rfl rfl rfl rfl rfl ?_
                  | refine r_bstr' tab_ok rfl rfl rfl rfl rfl rfl rfl rfl rfl ?_
                  | refine r_rowstr tab_ok rfl rfl rfl rfl rfl rfl rfl rfl rfl rfl ?_
                  | refine r_strd tab_ok rfl rfl rfl rfl rfl rfl (by omega) rfl rfl rfl ?_
                  | refine r_idxr tab_ok rfl rfl rfl rfl rfl rfl rfl rfl (by first | exact ⟨by omega, by omega⟩ | (simp; omega)) rfl ?_
                  | refine r_lde tab_ok rfl rfl rfl rfl rfl (by omega) rfl rfl rfl rfl ?_
                  | refine r_idxr_cnd tab_ok rfl rfl rfl rfl rfl rfl rfl rfl (by first | exact fun _ => rfl | exact cs1 | exact cs2) rfl rfl (by first | (intro _; exact ⟨by omega, by omega⟩) | (intro h; simp at h ⊢; omega)) rfl ?_
                  | refine r_lde_cnd tab_ok rfl rfl rfl rfl rfl rfl rfl (by first | exact fun _ => rfl | exact cs1 | exact cs2) (by omega) rfl rfl rfl rfl ?_
                  | refine r_cut tab_ok rfl rfl rfl rfl rfl rfl rfl rfl (by first | exact ⟨by simp, by simp; omega, by simp⟩ | (simp; omega)) rfl ?_
                  | refine r_append tab_ok rfl rfl rfl rfl rfl rfl rfl rfl rfl (by first | omega | (simp; omega)) rfl ?_
                  | refine r_append_nil tab_ok rfl rfl rfl rfl rfl rfl rfl rfl (by first | omega | (simp; omega)) rfl ?_)
                | refine ret1 (by first | exact .inl rfl | exact .inr rfl) rfl rfl rfl ?_
                | refine ret1_row (by first | exact .inl rfl | exact .inr rfl) rfl rfl rfl ?_
                | refine ret2 (by first | exact .inl rfl | exact .inr rfl) rfl rfl rfl rfl ?_ ?_
                | refine retM1 (by first | exact .inl rfl | exact .inr rfl) rfl rfl rfl rfl rfl ?_
                | exact retM0 (by first | exact .inl rfl | exact .inr rfl) rfl rfl rfl
                | refine awp_cond_t rfl ?_
                | refine awp_cond_f rfl ?_)
              refine r_call_cnd (fun _ => refInput_ok bytes ((List.range m).map rawR ++ [lastR m j tag text value])) call9 rfl rfl rfl rfl (by first | exact fun _ => rfl | exact cs1 | exact cs2 | exact cs3) ⟨Sub.refl _, sub_table m j tag text value, trivial⟩ rfl rfl rfl rfl ?_
              rw [hres]
              repeat (first
                | refine awp_seq ?_
                | refine thenA_normal ?_
                | refine awp_block ?_
                | refine a_region ?_
                | refine a_draw1 mixed_ok (by kernel_rfl) ?_
                | refine awp_ret ?_
                | refine awp_exit ?_
                | refine thenA_exit ?_
                | refine thenA_ret ?_
                | refine blockA_normal ?_
                | refine blockA_ret ?_
                | refine blockA_hit rfl ?_
                | refine blockA_miss rfl ?_
                | refine awp_skip ?_
                | refine r_done ?_
                | refine r_done' ?_
                | (refine r_id ?_; first
                  | refine r_len tab_ok rfl rfl rfl rfl rfl rfl rfl ?_
                  | refine r_ev tab_ok rfl rfl rfl rfl (by first | exact trivial | exact ⟨by omega, by omega⟩ | omega | exact ⟨by omega, by omega, by omega, by omega⟩ | exact Nat.le_of_ble_eq_true rfl) rfl ?_
                  | refine r_ld tab_ok rfl rfl rfl rfl rfl ?_
                  | refine r_idx tab_ok rfl rfl rfl rfl rfl rfl rfl (by first | exact ⟨by omega, by omega⟩ | (simp; omega)) rfl rfl ?_
                  | refine r_idxd tab_ok rfl rfl rfl rfl rfl rfl rfl (by decide) rfl rfl rfl ?_
                  | refine r_wr tab_ok rfl rfl rfl rfl rfl ?_
                  | refine r_st tab_ok rfl rfl rfl rfl ?_
                  | refine r_len_cnd tab_ok rfl rfl rfl rfl rfl rfl (by first | exact fun _ => rfl | exact cs1) rfl rfl rfl ?_
                  | refine r_ev_cnd tab_ok rfl rfl rfl rfl rfl rfl (by first | exact fun _ => rfl | exact cs1 | exact cs2 | exact cs3) (by first | exact fun _ => trivial | (intro h; simp at h; first | exact ⟨by omega, by omega⟩ | omega)) rfl ?_
                  | refine r_ld_cnd tab_ok rfl rfl rfl rfl rfl rfl (by first | exact fun _ => rfl | exact cs1 | exact cs2 | exact cs3) rfl ?_
                  | refine r_idx_cnd tab_ok rfl rfl rfl rfl rfl rfl rfl (by first | exact fun _ => rfl | exact cs1 | exact cs2) rfl rfl (by exact ⟨by omega, by omega⟩) rfl rfl ?_
                  | refine r_idx_cnd' tab_ok rfl rfl rfl rfl rfl rfl rfl (by first | exact fun _ => rfl | exact cs1 | exact cs2) rfl rfl (by intro h; simp at h; exact ⟨by omega, by omega⟩) rfl rfl ?_
                  | refine r_and_cnd rfl rfl rfl rfl rfl rfl rfl rfl rfl rfl ?_
                  | refine r_or_cnd rfl rfl rfl rfl rfl rfl rfl rfl rfl rfl ?_
                  | refine r_or rfl rfl rfl rfl rfl rfl rfl rfl ?_
                  | refine r_and rfl rfl rfl rfl rfl rfl rfl rfl ?_
                  | refine r_pick_t rfl rfl rfl rfl rfl rfl rfl ?_
                  | refine r_pick_f rfl rfl rfl rfl rfl rfl rfl ?_
                  | refine r_off rfl rfl rfl rfl rfl rfl ?_
                  | refine r_len_on tab_ok rfl rfl rfl rfl rfl rfl rfl rfl rfl ?_
                  | refine r_ev_on tab_ok rfl rfl rfl rfl rfl rfl (by first | exact trivial | exact ⟨by omega, by omega⟩ | omega) rfl ?_
                  | refine r_ld_on tab_ok rfl rfl rfl rfl rfl rfl rfl ?_
                  | refine r_build tab_ok rfl rfl rfl rfl rfl rfl ?_
                  | refine r_bstr tab_ok rfl rfl rfl rfl rfl rfl rfl rfl rfl rfl ?_
                  | refine r_build_cnd tab_ok rfl rfl rfl rfl rfl (by first | exact fun _ => rfl | exact cs1) rfl rfl rfl ?_
                  | refine r_built_cnd tab_ok rfl rfl rfl rfl rfl rfl rfl rfl (by first | exact fun _ => rfl | exact cs1) rfl rfl rfl ?_
                  | refine r_rem rfl rfl rfl rfl rfl rfl (by omega) rfl ?_
                  | refine r_built0 tab_ok rfl rfl rfl rfl rfl rfl rfl ?_
                  | refine r_built tab_ok rfl rfl rfl rfl rfl rfl rfl rfl rfl ?_
                  | refine r_range tab_ok rfl rfl rfl rfl rfl rfl rfl ?_
                  | refine r_next rfl rfl rfl rfl (by assumption) rfl rfl rfl ?_
                  | refine r_next_end rfl rfl rfl rfl (by assumption) rfl rfl rfl ?_
                  | refine r_nilck rfl rfl rfl rfl rfl rfl rfl ?_
                  | refine r_rstr tab_ok rfl rfl rfl rfl rfl rfl rfl rfl ?_
                  | refine r_rsstr tab_ok rfl rfl rfl rfl rfl rfl rfl rfl rfl rfl ?_
                  | refine r_bstr' tab_ok rfl rfl rfl rfl rfl rfl rfl rfl rfl ?_
                  | refine r_rowstr tab_ok rfl rfl rfl rfl rfl rfl rfl rfl rfl rfl ?_
                  | refine r_strd tab_ok rfl rfl rfl rfl rfl rfl (by omega) rfl rfl rfl ?_
                  | refine r_idxr tab_ok rfl rfl rfl rfl rfl rfl rfl rfl (by first | exact ⟨by omega, by omega⟩ | (simp; omega)) rfl ?_
                  | refine r_lde tab_ok rfl rfl rfl rfl rfl (by omega) rfl rfl rfl rfl ?_
                  | refine r_idxr_cnd tab_ok rfl rfl rfl rfl rfl rfl rfl rfl (by first | exact fun _ => rfl | exact cs1 | exact cs2) rfl rfl (by first | (intro _; exact ⟨by omega, by omega⟩) | (intro h; simp at h ⊢; omega)) rfl ?_
                  | refine r_lde_cnd tab_ok rfl rfl rfl rfl rfl rfl rfl (by first | exact fun _ => rfl | exact cs1 | exact cs2) (by omega) rfl rfl rfl rfl ?_
                  | refine r_cut tab_ok rfl rfl rfl rfl rfl rfl rfl rfl (by first | exact ⟨by simp, by simp; omega, by simp⟩ | (simp; omega)) rfl ?_
                  | refine r_append tab_ok rfl rfl rfl rfl rfl rfl rfl rfl rfl (by first | omega | (simp; omega)) rfl ?_
                  | refine r_append_nil tab_ok rfl rfl rfl rfl rfl rfl rfl rfl (by first | omega | (simp; omega)) rfl ?_)
                | refine ret1 (by first | exact .inl rfl | exact .inr rfl) rfl rfl rfl ?_
                | refine ret1_row (by first | exact .inl rfl | exact .inr rfl) rfl rfl rfl ?_
                | refine ret2 (by first | exact .inl rfl | exact .inr rfl) rfl rfl rfl rfl ?_ ?_
                | refine retM1 (by first | exact .inl rfl | exact .inr rfl) rfl rfl rfl rfl rfl ?_
                | exact retM0 (by first | exact .inl rfl | exact .inr rfl) rfl rfl rfl
                | refine awp_cond_t rfl ?_
                | refine awp_cond_f rfl ?_)
              refine r_call_cnd (fun _ => awake_ok) call7 rfl rfl rfl rfl (by first | exact fun _ => rfl | exact cs1 | exact cs2 | exact cs3) (by repeat' first | exact trivial | exact Sub.refl _ | exact Sub.nil _ | refine Sub.agg ?_ | apply And.intro) rfl rfl rfl rfl ?_
              repeat (first
                | refine awp_seq ?_
                | refine thenA_normal ?_
                | refine awp_block ?_
                | refine a_region ?_
                | refine a_draw1 mixed_ok (by kernel_rfl) ?_
                | refine awp_ret ?_
                | refine awp_exit ?_
                | refine thenA_exit ?_
                | refine thenA_ret ?_
                | refine blockA_normal ?_
                | refine blockA_ret ?_
                | refine blockA_hit rfl ?_
                | refine blockA_miss rfl ?_
                | refine awp_skip ?_
                | refine r_done ?_
                | refine r_done' ?_
                | (refine r_id ?_; first
                  | refine r_len tab_ok rfl rfl rfl rfl rfl rfl rfl ?_
                  | refine r_ev tab_ok rfl rfl rfl rfl (by first | exact trivial | exact ⟨by omega, by omega⟩ | omega | exact ⟨by omega, by omega, by omega, by omega⟩ | exact Nat.le_of_ble_eq_true rfl) rfl ?_
                  | refine r_ld tab_ok rfl rfl rfl rfl rfl ?_
                  | refine r_idx tab_ok rfl rfl rfl rfl rfl rfl rfl (by first | exact ⟨by omega, by omega⟩ | (simp; omega)) rfl rfl ?_
                  | refine r_idxd tab_ok rfl rfl rfl rfl rfl rfl rfl (by decide) rfl rfl rfl ?_
                  | refine r_wr tab_ok rfl rfl rfl rfl rfl ?_
                  | refine r_st tab_ok rfl rfl rfl rfl ?_
                  | refine r_len_cnd tab_ok rfl rfl rfl rfl rfl rfl (by first | exact fun _ => rfl | exact cs1) rfl rfl rfl ?_
                  | refine r_ev_cnd tab_ok rfl rfl rfl rfl rfl rfl (by first | exact fun _ => rfl | exact cs1 | exact cs2 | exact cs3) (by first | exact fun _ => trivial | (intro h; simp at h; first | exact ⟨by omega, by omega⟩ | omega)) rfl ?_
                  | refine r_ld_cnd tab_ok rfl rfl rfl rfl rfl rfl (by first | exact fun _ => rfl | exact cs1 | exact cs2 | exact cs3) rfl ?_
                  | refine r_idx_cnd tab_ok rfl rfl rfl rfl rfl rfl rfl (by first | exact fun _ => rfl | exact cs1 | exact cs2) rfl rfl (by exact ⟨by omega, by omega⟩) rfl rfl ?_
                  | refine r_idx_cnd' tab_ok rfl rfl rfl rfl rfl rfl rfl (by first | exact fun _ => rfl | exact cs1 | exact cs2) rfl rfl (by intro h; simp at h; exact ⟨by omega, by omega⟩) rfl rfl ?_
                  | refine r_and_cnd rfl rfl rfl rfl rfl rfl rfl rfl rfl rfl ?_
                  | refine r_or_cnd rfl rfl rfl rfl rfl rfl rfl rfl rfl rfl ?_
                  | refine r_or rfl rfl rfl rfl rfl rfl rfl rfl ?_
                  | refine r_and rfl rfl rfl rfl rfl rfl rfl rfl ?_
                  | refine r_pick_t rfl rfl rfl rfl rfl rfl rfl ?_
                  | refine r_pick_f rfl rfl rfl rfl rfl rfl rfl ?_
                  | refine r_off rfl rfl rfl rfl rfl rfl ?_
                  | refine r_len_on tab_ok rfl rfl rfl rfl rfl rfl rfl rfl rfl ?_
                  | refine r_ev_on tab_ok rfl rfl rfl rfl rfl rfl (by first | exact trivial | exact ⟨by omega, by omega⟩ | omega) rfl ?_
                  | refine r_ld_on tab_ok rfl rfl rfl rfl rfl rfl rfl ?_
                  | refine r_build tab_ok rfl rfl rfl rfl rfl rfl ?_
                  | refine r_bstr tab_ok rfl rfl rfl rfl rfl rfl rfl rfl rfl rfl ?_
                  | refine r_build_cnd tab_ok rfl rfl rfl rfl rfl (by first | exact fun _ => rfl | exact cs1) rfl rfl rfl ?_
                  | refine r_built_cnd tab_ok rfl rfl rfl rfl rfl rfl rfl rfl (by first | exact fun _ => rfl | exact cs1) rfl rfl rfl ?_
                  | refine r_rem rfl rfl rfl rfl rfl rfl (by omega) rfl ?_
                  | refine r_built0 tab_ok rfl rfl rfl rfl rfl rfl rfl ?_
                  | refine r_built tab_ok rfl rfl rfl rfl rfl rfl rfl rfl rfl ?_
                  | refine r_range tab_ok rfl rfl rfl rfl rfl rfl rfl ?_
                  | refine r_next rfl rfl rfl rfl (by assumption) rfl rfl rfl ?_
                  | refine r_next_end rfl rfl rfl rfl (by assumption) rfl rfl rfl ?_
                  | refine r_nilck rfl rfl rfl rfl rfl rfl rfl ?_
                  | refine r_rstr tab_ok rfl rfl rfl rfl rfl rfl rfl rfl ?_
                  | refine r_rsstr tab_ok rfl rfl rfl rfl rfl rfl rfl rfl rfl rfl ?_
                  | refine r_bstr' tab_ok rfl rfl rfl rfl rfl rfl rfl rfl rfl ?_
                  | refine r_rowstr tab_ok rfl rfl rfl rfl rfl rfl rfl rfl rfl rfl ?_
                  | refine r_strd tab_ok rfl rfl rfl rfl rfl rfl (by omega) rfl rfl rfl ?_
                  | refine r_idxr tab_ok rfl rfl rfl rfl rfl rfl rfl rfl (by first | exact ⟨by omega, by omega⟩ | (simp; omega)) rfl ?_
                  | refine r_lde tab_ok rfl rfl rfl rfl rfl (by omega) rfl rfl rfl rfl ?_
                  | refine r_idxr_cnd tab_ok rfl rfl rfl rfl rfl rfl rfl rfl (by first | exact fun _ => rfl | exact cs1 | exact cs2) rfl rfl (by first | (intro _; exact ⟨by omega, by omega⟩) | (intro h; simp at h ⊢; omega)) rfl ?_
                  | refine r_lde_cnd tab_ok rfl rfl rfl rfl rfl rfl rfl (by first | exact fun _ => rfl | exact cs1 | exact cs2) (by omega) rfl rfl rfl rfl ?_
                  | refine r_cut tab_ok rfl rfl rfl rfl rfl rfl rfl rfl (by first | exact ⟨by simp, by simp; omega, by simp⟩ | (simp; omega)) rfl ?_
                  | refine r_append tab_ok rfl rfl rfl rfl rfl rfl rfl rfl rfl (by first | omega | (simp; omega)) rfl ?_
                  | refine r_append_nil tab_ok rfl rfl rfl rfl rfl rfl rfl rfl (by first | omega | (simp; omega)) rfl ?_)
                | refine ret1 (by first | exact .inl rfl | exact .inr rfl) rfl rfl rfl ?_
                | refine ret1_row (by first | exact .inl rfl | exact .inr rfl) rfl rfl rfl ?_
                | refine ret2 (by first | exact .inl rfl | exact .inr rfl) rfl rfl rfl rfl ?_ ?_
                | refine retM1 (by first | exact .inl rfl | exact .inr rfl) rfl rfl rfl rfl rfl ?_
                | exact retM0 (by first | exact .inl rfl | exact .inr rfl) rfl rfl rfl
                | refine awp_cond_t rfl ?_
                | refine awp_cond_f rfl ?_)
              exact Sub.of_eq rfl
      · have : i = 0 := by omega
        subst this
        refine awp_fits (fits_conv (M' := [.gone])
            (F' := [(0, .val (.int .i64 bytes)), (1, .val (.int .i64 ((0 : Nat) : Int))), (2, .val (.int .i64 tag)), (3, .val (.int .i64 text)), (4, .val (.int .i64 attrs)), (5, .val (.int .i64 value)), (13, .sl 4 (([] : List Raw).map rawD))]) (by repeat' first | exact trivial | exact rfl | (rw [List.map_append]; first | done | rfl) | exact c_sub rfl (Sub.refl _) rfl | exact c_nil rfl rfl | exact c_thaw rfl rfl rfl | exact c_row rfl rfl rfl | exact c_row rfl rfl (by rw [List.map_append]; first | done | rfl) | exact c_ptr rfl rfl rfl rfl | exact Or.inl ⟨c_sub rfl (Sub.refl _) rfl, c_ptr rfl rfl rfl rfl⟩ | exact c_alt rfl rfl rfl rfl | exact c_ro rfl rfl | exact c_eo rfl rfl | exact c_sub rfl (Sub.altl _ _) rfl | refine ⟨_, _, rfl, ?_, ?_⟩ | apply And.intro) (by repeat' first | exact trivial | exact rfl | (rw [List.map_append]; first | done | rfl) | exact c_sub rfl (Sub.refl _) rfl | exact c_nil rfl rfl | exact c_thaw rfl rfl rfl | exact c_row rfl rfl rfl | exact c_row rfl rfl (by rw [List.map_append]; first | done | rfl) | exact c_ptr rfl rfl rfl rfl | exact Or.inl ⟨c_sub rfl (Sub.refl _) rfl, c_ptr rfl rfl rfl rfl⟩ | exact c_alt rfl rfl rfl rfl | exact c_ro rfl rfl | exact c_eo rfl rfl | exact c_sub rfl (Sub.altl _ _) rfl | refine ⟨_, _, rfl, ?_, ?_⟩ | apply And.intro)) ?_
        repeat (first
          | refine awp_seq ?_
          | refine thenA_normal ?_
          | refine awp_block ?_
          | refine a_region ?_
          | refine a_draw1 mixed_ok (by kernel_rfl) ?_
          | refine awp_ret ?_
          | refine awp_exit ?_
          | refine thenA_exit ?_
          | refine thenA_ret ?_
          | refine blockA_normal ?_
          | refine blockA_ret ?_
          | refine blockA_hit rfl ?_
          | refine blockA_miss rfl ?_
          | refine awp_skip ?_
          | refine r_done ?_
          | refine r_done' ?_
          | (refine r_id ?_; first
            | refine r_len tab_ok rfl rfl rfl rfl rfl rfl rfl ?_
            | refine r_ev tab_ok rfl rfl rfl rfl (by first | exact trivial | exact ⟨by omega, by omega⟩ | omega | exact ⟨by omega, by omega, by omega, by omega⟩ | exact Nat.le_of_ble_eq_true rfl) rfl ?_
            | refine r_ld tab_ok rfl rfl rfl rfl rfl ?_
            | refine r_idx tab_ok rfl rfl rfl rfl rfl rfl rfl (by first | exact ⟨by omega, by omega⟩ | (simp; omega)) rfl rfl ?_
            | refine r_idxd tab_ok rfl rfl rfl rfl rfl rfl rfl (by decide) rfl rfl rfl ?_
            | refine r_wr tab_ok rfl rfl rfl rfl rfl ?_
            | refine r_st tab_ok rfl rfl rfl rfl ?_
            | refine r_len_cnd tab_ok rfl rfl rfl rfl rfl rfl (by first | exact fun _ => rfl | exact cs1) rfl rfl rfl ?_
            | refine r_ev_cnd tab_ok rfl rfl rfl rfl rfl rfl (by first | exact fun _ => rfl | exact cs1 | exact cs2 | exact cs3) (by first | exact fun _ => trivial | (intro h; simp at h; first | exact ⟨by omega, by omega⟩ | omega)) rfl ?_
            | refine r_ld_cnd tab_ok rfl rfl rfl rfl rfl rfl (by first | exact fun _ => rfl | exact cs1 | exact cs2 | exact cs3) rfl ?_
            | refine r_idx_cnd tab_ok rfl rfl rfl rfl rfl rfl rfl (by first | exact fun _ => rfl | exact cs1 | exact cs2) rfl rfl (by exact ⟨by omega, by omega⟩) rfl rfl ?_
            | refine r_idx_cnd' tab_ok rfl rfl rfl rfl rfl rfl rfl (by first | exact fun _ => rfl | exact cs1 | exact cs2) rfl rfl (by intro h; simp at h; exact ⟨by omega, by omega⟩) rfl rfl ?_
            | refine r_and_cnd rfl rfl rfl rfl rfl rfl rfl rfl rfl rfl ?_
            | refine r_or_cnd rfl rfl rfl rfl rfl rfl rfl rfl rfl rfl ?_
            | refine r_or rfl rfl rfl rfl rfl rfl rfl rfl ?_
            | refine r_and rfl rfl rfl rfl rfl rfl rfl rfl ?_
            | refine r_pick_t rfl rfl rfl rfl rfl rfl rfl ?_
            | refine r_pick_f rfl rfl rfl rfl rfl rfl rfl ?_
            | refine r_off rfl rfl rfl rfl rfl rfl ?_
            | refine r_len_on tab_ok rfl rfl rfl rfl rfl rfl rfl rfl rfl ?_
            | refine r_ev_on tab_ok rfl rfl rfl rfl rfl rfl (by first | exact trivial | exact ⟨by omega, by omega⟩ | omega) rfl ?_
            | refine r_ld_on tab_ok rfl rfl rfl rfl rfl rfl rfl ?_
            | refine r_build tab_ok rfl rfl rfl rfl rfl rfl ?_
            | refine r_bstr tab_ok rfl rfl rfl rfl rfl rfl rfl rfl rfl rfl ?_
            | refine r_build_cnd tab_ok rfl rfl rfl rfl rfl (by first | exact fun _ => rfl | exact cs1) rfl rfl rfl ?_
            | refine r_built_cnd tab_ok rfl rfl rfl rfl rfl rfl rfl rfl (by first | exact fun _ => rfl | exact cs1) rfl rfl rfl ?_
            | refine r_rem rfl rfl rfl rfl rfl rfl (by omega) rfl ?_
            | refine r_built0 tab_ok rfl rfl rfl rfl rfl rfl rfl ?_
            | refine r_built tab_ok rfl rfl rfl rfl rfl rfl rfl rfl rfl ?_
            | refine r_range tab_ok rfl rfl rfl rfl rfl rfl rfl ?_
            | refine r_next rfl rfl rfl rfl (by assumption) rfl rfl rfl ?_
            | refine r_next_end rfl rfl rfl rfl (by assumption) rfl rfl rfl ?_
            | refine r_nilck rfl rfl rfl rfl rfl rfl rfl ?_
            | refine r_rstr tab_ok rfl rfl rfl rfl rfl rfl rfl rfl ?_
            | refine r_rsstr tab_ok rfl rfl rfl rfl rfl rfl rfl rfl rfl rfl ?_
            | refine r_bstr' tab_ok rfl rfl rfl rfl rfl rfl rfl rfl rfl ?_
            | refine r_rowstr tab_ok rfl rfl rfl rfl rfl rfl rfl rfl rfl rfl ?_
            | refine r_strd tab_ok rfl rfl rfl rfl rfl rfl (by omega) rfl rfl rfl ?_
            | refine r_idxr tab_ok rfl rfl rfl rfl rfl rfl rfl rfl (by first | exact ⟨by omega, by omega⟩ | (simp; omega)) rfl ?_
            | refine r_lde tab_ok rfl rfl rfl rfl rfl (by omega) rfl rfl rfl rfl ?_
            | refine r_idxr_cnd tab_ok rfl rfl rfl rfl rfl rfl rfl rfl (by first | exact fun _ => rfl | exact cs1 | exact cs2) rfl rfl (by first | (intro _; exact ⟨by omega, by omega⟩) | (intro h; simp at h ⊢; omega)) rfl ?_
            | refine r_lde_cnd tab_ok rfl rfl rfl rfl rfl rfl rfl (by first | exact fun _ => rfl | exact cs1 | exact cs2) (by omega) rfl rfl rfl rfl ?_
            | refine r_cut tab_ok rfl rfl rfl rfl rfl rfl rfl rfl (by first | exact ⟨by simp, by simp; omega, by simp⟩ | (simp; omega)) rfl ?_
            | refine r_append tab_ok rfl rfl rfl rfl rfl rfl rfl rfl rfl (by first | omega | (simp; omega)) rfl ?_
            | refine r_append_nil tab_ok rfl rfl rfl rfl rfl rfl rfl rfl (by first | omega | (simp; omega)) rfl ?_)
          | refine ret1 (by first | exact .inl rfl | exact .inr rfl) rfl rfl rfl ?_
          | refine ret1_row (by first | exact .inl rfl | exact .inr rfl) rfl rfl rfl ?_
          | refine ret2 (by first | exact .inl rfl | exact .inr rfl) rfl rfl rfl rfl ?_ ?_
          | refine retM1 (by first | exact .inl rfl | exact .inr rfl) rfl rfl rfl rfl rfl ?_
          | exact retM0 (by first | exact .inl rfl | exact .inr rfl) rfl rfl rfl
          | refine awp_cond_t rfl ?_
          | refine awp_cond_f rfl ?_)
        refine r_call (input_ok bytes []) call8 rfl rfl ⟨Sub.refl _, Sub.refl _, trivial⟩ rfl rfl rfl rfl ?_
        repeat (first
          | refine awp_seq ?_
          | refine thenA_normal ?_
          | refine awp_block ?_
          | refine a_region ?_
          | refine a_draw1 mixed_ok (by kernel_rfl) ?_
          | refine awp_ret ?_
          | refine awp_exit ?_
          | refine thenA_exit ?_
          | refine thenA_ret ?_
          | refine blockA_normal ?_
          | refine blockA_ret ?_
          | refine blockA_hit rfl ?_
          | refine blockA_miss rfl ?_
          | refine awp_skip ?_
          | refine r_done ?_
          | refine r_done' ?_
          | (refine r_id ?_; first
            | refine r_len tab_ok rfl rfl rfl rfl rfl rfl rfl ?_
            | refine r_ev tab_ok rfl rfl rfl rfl (by first | exact trivial | exact ⟨by omega, by omega⟩ | omega | exact ⟨by omega, by omega, by omega, by omega⟩ | exact Nat.le_of_ble_eq_true rfl) rfl ?_
            | refine r_ld tab_ok rfl rfl rfl rfl rfl ?_
            | refine r_idx tab_ok rfl rfl rfl rfl rfl rfl rfl (by first | exact ⟨by omega, by omega⟩ | (simp; omega)) rfl rfl ?_
            | refine r_idxd tab_ok rfl rfl rfl rfl rfl rfl rfl (by decide) rfl rfl rfl ?_
            | refine r_wr tab_ok rfl rfl rfl rfl rfl ?_
            | refine r_st tab_ok rfl rfl rfl rfl ?_
            | refine r_len_cnd tab_ok rfl rfl rfl rfl rfl rfl (by first | exact fun _ => rfl | exact cs1) rfl rfl rfl ?_
            | refine r_ev_cnd tab_ok rfl rfl rfl rfl rfl rfl (by first | exact fun _ => rfl | exact cs1 | exact cs2 | exact cs3) (by first | exact fun _ => trivial | (intro h; simp at h; first | exact ⟨by omega, by omega⟩ | omega)) rfl ?_
            | refine r_ld_cnd tab_ok rfl rfl rfl rfl rfl rfl (by first | exact fun _ => rfl | exact cs1 | exact cs2 | exact cs3) rfl ?_
            | refine r_idx_cnd tab_ok rfl rfl rfl rfl rfl rfl rfl (by first | exact fun _ => rfl | exact cs1 | exact cs2) rfl rfl (by exact ⟨by omega, by omega⟩) rfl rfl ?_
            | refine r_idx_cnd' tab_ok rfl rfl rfl rfl rfl rfl rfl (by first | exact fun _ => rfl | exact cs1 | exact cs2) rfl rfl (by intro h; simp at h; exact ⟨by omega, by omega⟩) rfl rfl ?_
            | refine r_and_cnd rfl rfl rfl rfl rfl rfl rfl rfl rfl rfl ?_
            | refine r_or_cnd rfl rfl rfl rfl rfl rfl rfl rfl rfl rfl ?_
            | refine r_or rfl rfl rfl rfl rfl rfl rfl rfl ?_
            | refine r_and rfl rfl rfl rfl rfl rfl rfl rfl ?_
            | refine r_pick_t rfl rfl rfl rfl rfl rfl rfl ?_
            | refine r_pick_f rfl rfl rfl rfl rfl rfl rfl ?_
            | refine r_off rfl rfl rfl rfl rfl rfl ?_
            | refine r_len_on tab_ok rfl rfl rfl rfl rfl rfl rfl rfl rfl ?_
            | refine r_ev_on tab_ok rfl rfl rfl rfl rfl rfl (by first | exact trivial | exact ⟨by omega, by omega⟩ | omega) rfl ?_
            | refine r_ld_on tab_ok rfl rfl rfl rfl rfl rfl rfl ?_
            | refine r_build tab_ok rfl rfl rfl rfl rfl rfl ?_
            | refine r_bstr tab_ok rfl rfl rfl rfl rfl rfl rfl rfl rfl rfl ?_
            | refine r_build_cnd tab_ok rfl rfl rfl rfl rfl (by first | exact fun _ => rfl | exact cs1) rfl rfl rfl ?_
            | refine r_built_cnd tab_ok rfl rfl rfl rfl rfl rfl rfl rfl (by first | exact fun _ => rfl | exact cs1) rfl rfl rfl ?_
            | refine r_rem rfl rfl rfl rfl rfl rfl (by omega) rfl ?_
            | refine r_built0 tab_ok rfl rfl rfl rfl rfl rfl rfl ?_
            | refine r_built tab_ok rfl rfl rfl rfl rfl rfl rfl rfl rfl ?_
            | refine r_range tab_ok rfl rfl rfl rfl rfl rfl rfl ?_
            | refine r_next rfl rfl rfl rfl (by assumption) rfl rfl rfl ?_
            | refine r_next_end rfl rfl rfl rfl (by assumption) rfl rfl rfl ?_
            | refine r_nilck rfl rfl rfl rfl rfl rfl rfl ?_
            | refine r_rstr tab_ok rfl rfl rfl rfl rfl rfl rfl rfl ?_
            | refine r_rsstr tab_ok rfl rfl rfl rfl rfl rfl rfl rfl rfl rfl ?_
            | refine r_bstr' tab_ok rfl rfl rfl rfl rfl rfl rfl rfl rfl ?_
            | refine r_rowstr tab_ok rfl rfl rfl rfl rfl rfl rfl rfl rfl rfl ?_
            | refine r_strd tab_ok rfl rfl rfl rfl rfl rfl (by omega) rfl rfl rfl ?_
            | refine r_idxr tab_ok rfl rfl rfl rfl rfl rfl rfl rfl (by first | exact ⟨by omega, by omega⟩ | (simp; omega)) rfl ?_
            | refine r_lde tab_ok rfl rfl rfl rfl rfl (by omega) rfl rfl rfl rfl ?_
            | refine r_idxr_cnd tab_ok rfl rfl rfl rfl rfl rfl rfl rfl (by first | exact fun _ => rfl | exact cs1 | exact cs2) rfl rfl (by first | (intro _; exact ⟨by omega, by omega⟩) | (intro h; simp at h ⊢; omega)) rfl ?_
            | refine r_lde_cnd tab_ok rfl rfl rfl rfl rfl rfl rfl (by first | exact fun _ => rfl | exact cs1 | exact cs2) (by omega) rfl rfl rfl rfl ?_
            | refine r_cut tab_ok rfl rfl rfl rfl rfl rfl rfl rfl (by first | exact ⟨by simp, by simp; omega, by simp⟩ | (simp; omega)) rfl ?_
            | refine r_append tab_ok rfl rfl rfl rfl rfl rfl rfl rfl rfl (by first | omega | (simp; omega)) rfl ?_
            | refine r_append_nil tab_ok rfl rfl rfl rfl rfl rfl rfl rfl (by first | omega | (simp; omega)) rfl ?_)
          | refine ret1 (by first | exact .inl rfl | exact .inr rfl) rfl rfl rfl ?_
          | refine ret1_row (by first | exact .inl rfl | exact .inr rfl) rfl rfl rfl ?_
          | refine ret2 (by first | exact .inl rfl | exact .inr rfl) rfl rfl rfl rfl ?_ ?_
          | refine retM1 (by first | exact .inl rfl | exact .inr rfl) rfl rfl rfl rfl rfl ?_
          | exact retM0 (by first | exact .inl rfl | exact .inr rfl) rfl rfl rfl
          | refine awp_cond_t rfl ?_
          | refine awp_cond_f rfl ?_)
        have hres := input_none bytes tag text attrs value
        refine awp_cond_p rfl (fun hb => ?_) (fun hb => ?_)
        · rw [if_pos hb] at hres
          rw [hres]
          repeat (first
            | refine awp_seq ?_
            | refine thenA_normal ?_
            | refine awp_block ?_
            | refine a_region ?_
            | refine a_draw1 mixed_ok (by kernel_rfl) ?_
            | refine awp_ret ?_
            | refine awp_exit ?_
            | refine thenA_exit ?_
            | refine thenA_ret ?_
            | refine blockA_normal ?_
            | refine blockA_ret ?_
            | refine blockA_hit rfl ?_
            | refine blockA_miss rfl ?_
            | refine awp_skip ?_
            | refine r_done ?_
            | refine r_done' ?_
            | (refine r_id ?_; first
              | refine r_len tab_ok rfl rfl rfl rfl rfl rfl rfl ?_
              | refine r_ev tab_ok rfl rfl rfl rfl (by first | exact trivial | exact ⟨by omega, by omega⟩ | omega | exact ⟨by omega, by omega, by omega, by omega⟩ | exact Nat.le_of_ble_eq_true rfl) rfl ?_
              | refine r_ld tab_ok rfl rfl rfl rfl rfl ?_
              | refine r_idx tab_ok rfl rfl rfl rfl rfl rfl rfl (by first | exact ⟨by omega, by omega⟩ | (simp; omega)) rfl rfl ?_
              | refine r_idxd tab_ok rfl rfl rfl rfl rfl rfl rfl (by decide) rfl rfl rfl ?_
              | refine r_wr tab_ok rfl rfl rfl rfl rfl ?_
              | refine r_st tab_ok rfl rfl rfl rfl ?_
              | refine r_len_cnd tab_ok rfl rfl rfl rfl rfl rfl (by first | exact fun _ => rfl | exact cs1) rfl rfl rfl ?_
              | refine r_ev_cnd tab_ok rfl rfl rfl rfl rfl rfl (by first | exact fun _ => rfl | exact cs1 | exact cs2 | exact cs3) (by first | exact fun _ => trivial | (intro h; simp at h; first | exact ⟨by omega, by omega⟩ | omega)) rfl ?_
              | refine r_ld_cnd tab_ok rfl rfl rfl rfl rfl rfl (by first | exact fun _ => rfl | exact cs1 | exact cs2 | exact cs3) rfl ?_
              | refine r_idx_cnd tab_ok rfl rfl rfl rfl rfl rfl rfl (by first | exact fun _ => rfl | exact cs1 | exact cs2) rfl rfl (by exact ⟨by omega, by omega⟩) rfl rfl ?_
              | refine r_idx_cnd' tab_ok rfl rfl rfl rfl rfl rfl rfl (by first | exact fun _ => rfl | exact cs1 | exact cs2) rfl rfl (by intro h; simp at h; exact ⟨by omega, by omega⟩) rfl rfl ?_
              | refine r_and_cnd rfl rfl rfl rfl rfl rfl rfl rfl rfl rfl ?_
              | refine r_or_cnd rfl rfl rfl rfl rfl rfl rfl rfl rfl rfl ?_
              | refine r_or rfl rfl rfl rfl rfl rfl rfl rfl ?_
              | refine r_and rfl rfl rfl rfl rfl rfl rfl rfl ?_
              | refine r_pick_t rfl rfl rfl rfl rfl rfl rfl ?_
              | refine r_pick_f rfl rfl rfl rfl rfl rfl rfl ?_
              | refine r_off rfl rfl rfl rfl rfl rfl ?_
              | refine r_len_on tab_ok rfl rfl rfl rfl rfl rfl rfl rfl rfl ?_
              | refine r_ev_on tab_ok rfl rfl rfl rfl rfl rfl (by first | exact trivial | exact ⟨by omega, by omega⟩ | omega) rfl ?_
              | refine r_ld_on tab_ok rfl rfl rfl rfl rfl rfl rfl ?_
              | refine r_build tab_ok rfl rfl rfl rfl rfl rfl ?_
              | refine r_bstr tab_ok rfl rfl rfl rfl rfl rfl rfl rfl rfl rfl ?_
              | refine r_build_cnd tab_ok rfl rfl rfl rfl rfl (by first | exact fun _ => rfl | exact cs1) rfl rfl rfl ?_
              | refine r_built_cnd tab_ok rfl rfl rfl rfl rfl rfl rfl rfl (by first | exact fun _ => rfl | exact cs1) rfl rfl rfl ?_
              | refine r_rem rfl rfl rfl rfl rfl rfl (by omega) rfl ?_
              | refine r_built0 tab_ok rfl rfl rfl rfl rfl rfl rfl ?_
              | refine r_built tab_ok rfl rfl rfl rfl rfl rfl rfl rfl rfl ?_
              | refine r_range tab_ok rfl rfl rfl rfl rfl rfl rfl ?_
              | refine r_next rfl rfl rfl rfl (by assumption) rfl rfl rfl ?_
              | refine r_next_end rfl rfl rfl rfl (by assumption) rfl rfl rfl ?_
              | refine r_nilck rfl rfl rfl rfl rfl rfl rfl ?_
              | refine r_rstr tab_ok rfl rfl rfl rfl rfl rfl rfl rfl ?_
              | refine r_rsstr tab_ok rfl rfl rfl rfl rfl rfl rfl rfl rfl rfl ?_
              | refine r_bstr' tab_ok rfl rfl rfl rfl rfl rfl rfl rfl rfl ?_
              | refine r_rowstr tab_ok rfl rfl rfl rfl rfl rfl rfl rfl rfl rfl ?_
              | refine r_strd tab_ok rfl rfl rfl rfl rfl rfl (by omega) rfl rfl rfl ?_
              | refine r_idxr tab_ok rfl rfl rfl rfl rfl rfl rfl rfl (by first | exact ⟨by omega, by omega⟩ | (simp; omega)) rfl ?_
              | refine r_lde tab_ok rfl rfl rfl rfl rfl (by omega) rfl rfl rfl rfl ?_
              | refine r_idxr_cnd tab_ok rfl rfl rfl rfl rfl rfl rfl rfl (by first | exact fun _ => rfl | exact cs1 | exact cs2) rfl rfl (by first | (intro _; exact ⟨by omega, by omega⟩) | (intro h; simp at h ⊢; omega)) rfl ?_
              | refine r_lde_cnd tab_ok rfl rfl rfl rfl rfl rfl rfl (by first | exact fun _ => rfl | exact cs1 | exact cs2) (by omega) rfl rfl rfl rfl ?_
              | refine r_cut tab_ok rfl rfl rfl rfl rfl rfl rfl rfl (by first | exact ⟨by simp, by simp; omega, by simp⟩ | (simp; omega)) rfl ?_
              | refine r_append tab_ok rfl rfl rfl rfl rfl rfl rfl rfl rfl (by first | omega | (simp; omega)) rfl ?_
              | refine r_append_nil tab_ok rfl rfl rfl rfl rfl rfl rfl rfl (by first | omega | (simp; omega)) rfl ?_)
            | refine ret1 (by first | exact .inl rfl | exact .inr rfl) rfl rfl rfl ?_
            | refine ret1_row (by first | exact .inl rfl | exact .inr rfl) rfl rfl rfl ?_
            | refine ret2 (by first | exact .inl rfl | exact .inr rfl) rfl rfl rfl rfl ?_ ?_
            | refine retM1 (by first | exact .inl rfl | exact .inr rfl) rfl rfl rfl rfl rfl ?_
            | exact retM0 (by first | exact .inl rfl | exact .inr rfl) rfl rfl rfl
            | refine awp_cond_t rfl ?_
            | refine awp_cond_f rfl ?_)
          refine r_call_cnd (fun _ => refInput_ok bytes []) call9 rfl rfl rfl rfl (by first | exact fun _ => rfl | exact cs1 | exact cs2 | exact cs3) ⟨Sub.refl _, Sub.refl _, trivial⟩ rfl rfl rfl rfl ?_
          rw [hres]
          repeat (first
            | refine awp_seq ?_
            | refine thenA_normal ?_
            | refine awp_block ?_
            | refine a_region ?_
            | refine a_draw1 mixed_ok (by kernel_rfl) ?_
            | refine awp_ret ?_
            | refine awp_exit ?_
            | refine thenA_exit ?_
            | refine thenA_ret ?_
            | refine blockA_normal ?_
            | refine blockA_ret ?_
            | refine blockA_hit rfl ?_
            | refine blockA_miss rfl ?_
            | refine awp_skip ?_
            | refine r_done ?_
            | refine r_done' ?_
            | (refine r_id ?_; first
              | refine r_len tab_ok rfl rfl rfl rfl rfl rfl rfl ?_
              | refine r_ev tab_ok rfl rfl rfl rfl (by first | exact trivial | exact ⟨by omega, by omega⟩ | omega | exact ⟨by omega, by omega, by omega, by omega⟩ | exact Nat.le_of_ble_eq_true rfl) rfl ?_
              | refine r_ld tab_ok rfl rfl rfl rfl rfl ?_
              | refine r_idx tab_ok rfl rfl rfl rfl rfl rfl rfl (by first | exact ⟨by omega, by omega⟩ | (simp; omega)) rfl rfl ?_
              | refine r_idxd tab_ok rfl rfl rfl rfl rfl rfl rfl (by decide) rfl rfl rfl ?_
              | refine r_wr tab_ok rfl rfl rfl rfl rfl ?_
              | refine r_st tab_ok rfl rfl rfl rfl ?_
              | refine r_len_cnd tab_ok rfl rfl rfl rfl rfl rfl (by first | exact fun _ => rfl | exact cs1) rfl rfl rfl ?_
              | refine r_ev_cnd tab_ok rfl rfl rfl rfl rfl rfl (by first | exact fun _ => rfl | exact cs1 | exact cs2 | exact cs3) (by first | exact fun _ => trivial | (intro h; simp at h; first | exact ⟨by omega, by omega⟩ | omega)) rfl ?_
              | refine r_ld_cnd tab_ok rfl rfl rfl rfl rfl rfl (by first | exact fun _ => rfl | exact cs1 | exact cs2 | exact cs3) rfl ?_
              | refine r_idx_cnd tab_ok rfl rfl rfl rfl rfl rfl rfl (by first | exact fun _ => rfl | exact cs1 | exact cs2) rfl rfl (by exact ⟨by omega, by omega⟩) rfl rfl ?_
              | refine r_idx_cnd' tab_ok rfl rfl rfl rfl rfl rfl rfl (by first | exact fun _ => rfl | exact cs1 | exact cs2) rfl rfl (by intro h; simp at h; exact ⟨by omega, by omega⟩) rfl rfl ?_
              | refine r_and_cnd rfl rfl rfl rfl rfl rfl rfl rfl rfl rfl ?_
              | refine r_or_cnd rfl rfl rfl rfl rfl rfl rfl rfl rfl rfl ?_
              | refine r_or rfl rfl rfl rfl rfl rfl rfl rfl ?_
              | refine r_and rfl rfl rfl rfl rfl rfl rfl rfl ?_
              | refine r_pick_t rfl rfl rfl rfl rfl rfl rfl ?_
              | refine r_pick_f rfl rfl rfl rfl rfl rfl rfl ?_
              | refine r_off rfl rfl rfl rfl rfl rfl ?_
              | refine r_len_on tab_ok rfl rfl rfl rfl rfl rfl rfl rfl rfl ?_
              | refine r_ev_on tab_ok rfl rfl rfl rfl rfl rfl (by first | exact trivial | exact ⟨by omega, by omega⟩ | omega) rfl ?_
              | refine r_ld_on tab_ok rfl rfl rfl rfl rfl rfl rfl ?_
              | refine r_build tab_ok rfl rfl rfl rfl rfl rfl ?_
              | refine r_bstr tab_ok rfl rfl rfl rfl rfl rfl rfl rfl rfl rfl ?_
              | refine r_build_cnd tab_ok rfl rfl rfl rfl rfl (by first | exact fun _ => rfl | exact cs1) rfl rfl rfl ?_
              | refine r_built_cnd tab_ok rfl rfl rfl rfl rfl rfl rfl rfl (by first | exact fun _ => rfl | exact cs1) rfl rfl rfl ?_
              | refine r_rem rfl rfl rfl rfl rfl rfl (by omega) rfl ?_
              | refine r_built0 tab_ok rfl rfl rfl rfl rfl rfl rfl ?_
              | refine r_built tab_ok rfl rfl rfl rfl rfl rfl rfl rfl rfl ?_
              | refine r_range tab_ok rfl rfl rfl rfl rfl rfl rfl ?_
              | refine r_next rfl rfl rfl rfl (by assumption) rfl rfl rfl ?_
              | refine r_next_end rfl rfl rfl rfl (by assumption) rfl rfl rfl ?_
              | refine r_nilck rfl rfl rfl rfl rfl rfl rfl ?_
              | refine r_rstr tab_ok rfl rfl rfl rfl rfl rfl rfl rfl ?_
              | refine r_rsstr tab_ok rfl rfl rfl rfl rfl rfl rfl rfl rfl rfl ?_
              | refine r_bstr' tab_ok rfl rfl rfl rfl rfl rfl rfl rfl rfl ?_
              | refine r_rowstr tab_ok rfl rfl rfl rfl rfl rfl rfl rfl rfl rfl ?_
              | refine r_strd tab_ok rfl rfl rfl rfl rfl rfl (by omega) rfl rfl rfl ?_
              | refine r_idxr tab_ok rfl rfl rfl rfl rfl rfl rfl rfl (by first | exact ⟨by omega, by omega⟩ | (simp; omega)) rfl ?_
              | refine r_lde tab_ok rfl rfl rfl rfl rfl (by omega) rfl rfl rfl rfl ?_
              | refine r_idxr_cnd tab_ok rfl rfl rfl rfl rfl rfl rfl rfl (by first | exact fun _ => rfl | exact cs1 | exact cs2) rfl rfl (by first | (intro _; exact ⟨by omega, by omega⟩) | (intro h; simp at h ⊢; omega)) rfl ?_
              | refine r_lde_cnd tab_ok rfl rfl rfl rfl rfl rfl rfl (by first | exact fun _ => rfl | exact cs1 | exact cs2) (by omega) rfl rfl rfl rfl ?_
              | refine r_cut tab_ok rfl rfl rfl rfl rfl rfl rfl rfl (by first | exact ⟨by simp, by simp; omega, by simp⟩ | (simp; omega)) rfl ?_
              | refine r_append tab_ok rfl rfl rfl rfl rfl rfl rfl rfl rfl (by first | omega | (simp; omega)) rfl ?_
              | refine r_append_nil tab_ok rfl rfl rfl rfl rfl rfl rfl rfl (by first | omega | (simp; omega)) rfl ?_)
            | refine ret1 (by first | exact .inl rfl | exact .inr rfl) rfl rfl rfl ?_
            | refine ret1_row (by first | exact .inl rfl | exact .inr rfl) rfl rfl rfl ?_
            | refine ret2 (by first | exact .inl rfl | exact .inr rfl) rfl rfl rfl rfl ?_ ?_
            | refine retM1 (by first | exact .inl rfl | exact .inr rfl) rfl rfl rfl rfl rfl ?_
            | exact retM0 (by first | exact .inl rfl | exact .inr rfl) rfl rfl rfl
            | refine awp_cond_t rfl ?_
            | refine awp_cond_f rfl ?_)
          refine r_call_cnd (fun _ => awake_ok) call7 rfl rfl rfl rfl (by first | exact fun _ => rfl | exact cs1 | exact cs2 | exact cs3) (by repeat' first | exact trivial | exact Sub.refl _ | exact Sub.nil _ | refine Sub.agg ?_ | apply And.intro) rfl rfl rfl rfl ?_
          repeat (first
            | refine awp_seq ?_
            | refine thenA_normal ?_
            | refine awp_block ?_
            | refine a_region ?_
            | refine a_draw1 mixed_ok (by kernel_rfl) ?_
            | refine awp_ret ?_
            | refine awp_exit ?_
            | refine thenA_exit ?_
            | refine thenA_ret ?_
            | refine blockA_normal ?_
            | refine blockA_ret ?_
            | refine blockA_hit rfl ?_
            | refine blockA_miss rfl ?_
            | refine awp_skip ?_
            | refine r_done ?_
            | refine r_done' ?_
            | (refine r_id ?_; first
              | refine r_len tab_ok rfl rfl rfl rfl rfl rfl rfl ?_
              | refine r_ev tab_ok rfl rfl rfl rfl (by first | exact trivial | exact ⟨by omega, by omega⟩ | omega | exact ⟨by omega, by omega, by omega, by omega⟩ | exact Nat.le_of_ble_eq_true rfl) rfl ?_
              | refine r_ld tab_ok rfl rfl rfl rfl rfl ?_
              | refine r_idx tab_ok rfl rfl rfl rfl rfl rfl rfl (by first | exact ⟨by omega, by omega⟩ | (simp; omega)) rfl rfl ?_
              | refine r_idxd tab_ok rfl rfl rfl rfl rfl rfl rfl (by decide) rfl rfl rfl ?_
              | refine r_wr tab_ok rfl rfl rfl rfl rfl ?_
              | refine r_st tab_ok rfl rfl rfl rfl ?_
              | refine r_len_cnd tab_ok rfl rfl rfl rfl rfl rfl (by first | exact fun _ => rfl | exact cs1) rfl rfl rfl ?_
              | refine r_ev_cnd tab_ok rfl rfl rfl rfl rfl rfl (by first | exact fun _ => rfl | exact cs1 | exact cs2 | exact cs3) (by first | exact fun _ => trivial | (intro h; simp at h; first | exact ⟨by omega, by omega⟩ | omega)) rfl ?_
              | refine r_ld_cnd tab_ok rfl rfl rfl rfl rfl rfl (by first | exact fun _ => rfl | exact cs1 | exact cs2 | exact cs3) rfl ?_
              | refine r_idx_cnd tab_ok rfl rfl rfl rfl rfl rfl rfl (by first | exact fun _ => rfl | exact cs1 | exact cs2) rfl rfl (by exact ⟨by omega, by omega⟩) rfl rfl ?_
              | refine r_idx_cnd' tab_ok rfl rfl rfl rfl rfl rfl rfl (by first | exact fun _ => rfl | exact cs1 | exact cs2) rfl rfl (by intro h; simp at h; exact ⟨by omega, by omega⟩) rfl rfl ?_
              | refine r_and_cnd rfl rfl rfl rfl rfl rfl rfl rfl rfl rfl ?_
              | refine r_or_cnd rfl rfl rfl rfl rfl rfl rfl rfl rfl rfl ?_
              | refine r_or rfl rfl rfl rfl rfl rfl rfl rfl ?_
              | refine r_and rfl rfl rfl rfl rfl rfl rfl rfl ?_
              | refine r_pick_t rfl rfl rfl rfl rfl rfl rfl ?_
              | refine r_pick_f rfl rfl rfl rfl rfl rfl rfl ?_
              | refine r_off rfl rfl rfl rfl rfl rfl ?_
              | refine r_len_on tab_ok rfl rfl rfl rfl rfl rfl rfl rfl rfl ?_
              | refine r_ev_on tab_ok rfl rfl rfl rfl rfl rfl (by first | exact trivial | exact ⟨by omega, by omega⟩ | omega) rfl ?_
              | refine r_ld_on tab_ok rfl rfl rfl rfl rfl rfl rfl ?_
              | refine r_build tab_ok rfl rfl rfl rfl rfl rfl ?_
              | refine r_bstr tab_ok rfl rfl rfl rfl rfl rfl rfl rfl rfl rfl ?_
              | refine r_build_cnd tab_ok rfl rfl rfl rfl rfl (by first | exact fun _ => rfl | exact cs1) rfl rfl rfl ?_
              | refine r_built_cnd tab_ok rfl rfl rfl rfl rfl rfl rfl rfl (by first | exact fun _ => rfl | exact cs1) rfl rfl rfl ?_
              | refine r_rem rfl rfl rfl rfl rfl rfl (by omega) rfl ?_
              | refine r_built0 tab_ok rfl rfl rfl rfl rfl rfl rfl ?_
              | refine r_built tab_ok rfl rfl rfl rfl rfl rfl rfl rfl rfl ?_
              | refine r_range tab_ok rfl rfl rfl rfl rfl rfl rfl ?_
              | refine r_next rfl rfl rfl rfl (by assumption) rfl rfl rfl ?_
              | refine r_next_end rfl rfl rfl rfl (by assumption) rfl rfl rfl ?_
              | refine r_nilck rfl rfl rfl rfl rfl rfl rfl ?_
              | refine r_rstr tab_ok rfl rfl rfl rfl rfl rfl rfl rfl ?_
              | refine r_rsstr tab_ok rfl rfl rfl rfl rfl rfl rfl rfl rfl rfl ?_
              | refine r_bstr' tab_ok rfl rfl rfl rfl rfl rfl rfl rfl rfl ?_
              | refine r_rowstr tab_ok rfl rfl rfl rfl rfl rfl rfl rfl rfl rfl ?_
              | refine r_strd tab_ok rfl rfl rfl rfl rfl rfl (by omega) rfl rfl rfl ?_
              | refine r_idxr tab_ok rfl rfl rfl rfl rfl rfl rfl rfl (by first | exact ⟨by omega, by omega⟩ | (simp; omega)) rfl ?_
              | refine r_lde tab_ok rfl rfl rfl rfl rfl (by omega) rfl rfl rfl rfl ?_
              | refine r_idxr_cnd tab_ok rfl rfl rfl rfl rfl rfl rfl rfl (by first | exact fun _ => rfl | exact cs1 | exact cs2) rfl rfl (by first | (intro _; exact ⟨by omega, by omega⟩) | (intro h; simp at h ⊢; omega)) rfl ?_
              | refine r_lde_cnd tab_ok rfl rfl rfl rfl rfl rfl rfl (by first | exact fun _ => rfl | exact cs1 | exact cs2) (by omega) rfl rfl rfl rfl ?_
              | refine r_cut tab_ok rfl rfl rfl rfl rfl rfl rfl rfl (by first | exact ⟨by simp, by simp; omega, by simp⟩ | (simp; omega)) rfl ?_
              | refine r_append tab_ok rfl rfl rfl rfl rfl rfl rfl rfl rfl (by first | omega | (simp; omega)) rfl ?_
              | refine r_append_nil tab_ok rfl rfl rfl rfl rfl rfl rfl rfl (by first | omega | (simp; omega)) rfl ?_)
            | refine ret1 (by first | exact .inl rfl | exact .inr rfl) rfl rfl rfl ?_
            | refine ret1_row (by first | exact .inl rfl | exact .inr rfl) rfl rfl rfl ?_
            | refine ret2 (by first | exact .inl rfl | exact .inr rfl) rfl rfl rfl rfl ?_ ?_
            | refine retM1 (by first | exact .inl rfl | exact .inr rfl) rfl rfl rfl rfl rfl ?_
            | exact retM0 (by first | exact .inl rfl | exact .inr rfl) rfl rfl rfl
            | refine awp_cond_t rfl ?_
            | refine awp_cond_f rfl ?_)
          exact Sub.of_eq rfl
        · rw [if_neg hb, if_neg (by simp [goodF])] at hres
          rw [hres]
          repeat (first
            | refine awp_seq ?_
            | refine thenA_normal ?_
            | refine awp_block ?_
            | refine a_region ?_
            | refine a_draw1 mixed_ok (by kernel_rfl) ?_
            | refine awp_ret ?_
            | refine awp_exit ?_
            | refine thenA_exit ?_
            | refine thenA_ret ?_
            | refine blockA_normal ?_
            | refine blockA_ret ?_
            | refine blockA_hit rfl ?_
            | refine blockA_miss rfl ?_
            | refine awp_skip ?_
            | refine r_done ?_
            | refine r_done' ?_
            | (refine r_id ?_; first
              | refine r_len tab_ok rfl rfl rfl rfl rfl rfl rfl ?_
              | refine r_ev tab_ok rfl rfl rfl rfl (by first | exact trivial | exact ⟨by omega, by omega⟩ | omega | exact ⟨by omega, by omega, by omega, by omega⟩ | exact Nat.le_of_ble_eq_true rfl) rfl ?_
              | refine r_ld tab_ok rfl rfl rfl rfl rfl ?_
              | refine r_idx tab_ok rfl rfl rfl rfl rfl rfl rfl (by first | exact ⟨by omega, by omega⟩ | (simp; omega)) rfl rfl ?_
              | refine r_idxd tab_ok rfl rfl rfl rfl rfl rfl rfl (by decide) rfl rfl rfl ?_
              | refine r_wr tab_ok rfl rfl rfl rfl rfl ?_
              | refine r_st tab_ok rfl rfl rfl rfl ?_
              | refine r_len_cnd tab_ok rfl rfl rfl rfl rfl rfl (by first | exact fun _ => rfl | exact cs1) rfl rfl rfl ?_
              | refine r_ev_cnd tab_ok rfl rfl rfl rfl rfl rfl (by first | exact fun _ => rfl | exact cs1 | exact cs2 | exact cs3) (by first | exact fun _ => trivial | (intro h; simp at h; first | exact ⟨by omega, by omega⟩ | omega)) rfl ?_
              | refine r_ld_cnd tab_ok rfl rfl rfl rfl rfl rfl (by first | exact fun _ => rfl | exact cs1 | exact cs2 | exact cs3) rfl ?_
              | refine r_idx_cnd tab_ok rfl rfl rfl rfl rfl rfl rfl (by first | exact fun _ => rfl | exact cs1 | exact cs2) rfl rfl (by exact ⟨by omega, by omega⟩) rfl rfl ?_
              | refine r_idx_cnd' tab_ok rfl rfl rfl rfl rfl rfl rfl (by first | exact fun _ => rfl | exact cs1 | exact cs2) rfl rfl (by intro h; simp at h; exact ⟨by omega, by omega⟩) rfl rfl ?_
              | refine r_and_cnd rfl rfl rfl rfl rfl rfl rfl rfl rfl rfl ?_
              | refine r_or_cnd rfl rfl rfl rfl rfl rfl rfl rfl rfl rfl ?_
              | refine r_or rfl rfl rfl rfl rfl rfl rfl rfl ?_
              | refine r_and rfl rfl rfl rfl rfl rfl rfl rfl ?_
              | refine r_pick_t rfl rfl rfl rfl rfl rfl rfl ?_
              | refine r_pick_f rfl rfl rfl rfl rfl rfl rfl ?_
              | refine r_off rfl rfl rfl rfl rfl rfl ?_
              | refine r_len_on tab_ok rfl rfl rfl rfl rfl rfl rfl rfl rfl ?_
              | refine r_ev_on tab_ok rfl rfl rfl rfl rfl rfl (by first | exact trivial | exact ⟨by omega, by omega⟩ | omega) rfl ?_
              | refine r_ld_on tab_ok rfl rfl rfl rfl rfl rfl rfl ?_
              | refine r_build tab_ok rfl rfl rfl rfl rfl rfl ?_
              | refine r_bstr tab_ok rfl rfl rfl rfl rfl rfl rfl rfl rfl rfl ?_
              | refine r_build_cnd tab_ok rfl rfl rfl rfl rfl (by first | exact fun _ => rfl | exact cs1) rfl rfl rfl ?_
              | refine r_built_cnd tab_ok rfl rfl rfl rfl rfl rfl rfl rfl (by first | exact fun _ => rfl | exact cs1) rfl rfl rfl ?_
              | refine r_rem rfl rfl rfl rfl rfl rfl (by omega) rfl ?_
              | refine r_built0 tab_ok rfl rfl rfl rfl rfl rfl rfl ?_
              | refine r_built tab_ok rfl rfl rfl rfl rfl rfl rfl rfl rfl ?_
              | refine r_range tab_ok rfl rfl rfl rfl rfl rfl rfl ?_
              | refine r_next rfl rfl rfl rfl (by assumption) rfl rfl rfl ?_
              | refine r_next_end rfl rfl rfl rfl (by assumption) rfl rfl rfl ?_
              | refine r_nilck rfl rfl rfl rfl rfl rfl rfl ?_
              | refine r_rstr tab_ok rfl rfl rfl rfl rfl rfl rfl rfl ?_
              | refine r_rsstr tab_ok rfl rfl rfl rfl rfl rfl rfl rfl rfl rfl ?_
              | refine r_bstr' tab_ok rfl rfl rfl rfl rfl rfl rfl rfl rfl ?_
              | refine r_rowstr tab_ok rfl rfl rfl rfl rfl rfl rfl rfl rfl rfl ?_
              | refine r_strd tab_ok rfl rfl rfl rfl rfl rfl (by omega) rfl rfl rfl ?_
              | refine r_idxr tab_ok rfl rfl rfl rfl rfl rfl rfl rfl (by first | exact ⟨by omega, by omega⟩ | (simp; omega)) rfl ?_
              | refine r_lde tab_ok rfl rfl rfl rfl rfl (by omega) rfl rfl rfl rfl ?_
              | refine r_idxr_cnd tab_ok rfl rfl rfl rfl rfl rfl rfl rfl (by first | exact fun _ => rfl | exact cs1 | exact cs2) rfl rfl (by first | (intro _; exact ⟨by omega, by omega⟩) | (intro h; simp at h ⊢; omega)) rfl ?_
              | refine r_lde_cnd tab_ok rfl rfl rfl rfl rfl rfl rfl (by first | exact fun _ => rfl | exact cs1 | exact cs2) (by omega) rfl rfl rfl rfl ?_
              | refine r_cut tab_ok rfl rfl rfl rfl rfl rfl rfl rfl (by first | exact ⟨by simp, by simp; omega, by simp⟩ | (simp; omega)) rfl ?_
              | refine r_append tab_ok rfl rfl rfl rfl rfl rfl rfl rfl rfl (by first | omega | (simp; omega)) rfl ?_
              | refine r_append_nil tab_ok rfl rfl rfl rfl rfl rfl rfl rfl (by first | omega | (simp; omega)) rfl ?_)
            | refine ret1 (by first | exact .inl rfl | exact .inr rfl) rfl rfl rfl ?_
            | refine ret1_row (by first | exact .inl rfl | exact .inr rfl) rfl rfl rfl ?_
            | refine ret2 (by first | exact .inl rfl | exact .inr rfl) rfl rfl rfl rfl ?_ ?_
            | refine retM1 (by first | exact .inl rfl | exact .inr rfl) rfl rfl rfl rfl rfl ?_
            | exact retM0 (by first | exact .inl rfl | exact .inr rfl) rfl rfl rfl
            | refine awp_cond_t rfl ?_
            | refine awp_cond_f rfl ?_)
          refine r_call_cnd (fun _ => refInput_ok bytes []) call9 rfl rfl rfl rfl (by first | exact fun _ => rfl | exact cs1 | exact cs2 | exact cs3) ⟨Sub.refl _, Sub.refl _, trivial⟩ rfl rfl rfl rfl ?_
          rw [hres]
          repeat (first
            | refine awp_seq ?_
            | refine thenA_normal ?_
            | refine awp_block ?_
            | refine a_region ?_
            | refine a_draw1 mixed_ok (by kernel_rfl) ?_
            | refine awp_ret ?_
            | refine awp_exit ?_
            | refine thenA_exit ?_
            | refine thenA_ret ?_
            | refine blockA_normal ?_
            | refine blockA_ret ?_
            | refine blockA_hit rfl ?_
            | refine blockA_miss rfl ?_
            | refine awp_skip ?_
            | refine r_done ?_
            | refine r_done' ?_
            | (refine r_id ?_; first
              | refine r_len tab_ok rfl rfl rfl rfl rfl rfl rfl ?_
              | refine r_ev tab_ok rfl rfl rfl rfl (by first | exact trivial | exact ⟨by omega, by omega⟩ | omega | exact ⟨by omega, by omega, by omega, by omega⟩ | exact Nat.le_of_ble_eq_true rfl) rfl ?_
              | refine r_ld tab_ok rfl rfl rfl rfl rfl ?_
              | refine r_idx tab_ok rfl rfl rfl rfl rfl rfl rfl (by first | exact ⟨by omega, by omega⟩ | (simp; omega)) rfl rfl ?_
              | refine r_idxd tab_ok rfl rfl rfl rfl rfl rfl rfl (by decide) rfl rfl rfl ?_
              | refine r_wr tab_ok rfl rfl rfl rfl rfl ?_
              | refine r_st tab_ok rfl rfl rfl rfl ?_
              | refine r_len_cnd tab_ok rfl rfl rfl rfl rfl rfl (by first | exact fun _ => rfl | exact cs1) rfl rfl rfl ?_
              | refine r_ev_cnd tab_ok rfl rfl rfl rfl rfl rfl (by first | exact fun _ => rfl | exact cs1 | exact cs2 | exact cs3) (by first | exact fun _ => trivial | (intro h; simp at h; first | exact ⟨by omega, by omega⟩ | omega)) rfl ?_
              | refine r_ld_cnd tab_ok rfl rfl rfl rfl rfl rfl (by first | exact fun _ => rfl | exact cs1 | exact cs2 | exact cs3) rfl ?_
              | refine r_idx_cnd tab_ok rfl rfl rfl rfl rfl rfl rfl (by first | exact fun _ => rfl | exact cs1 | exact cs2) rfl rfl (by exact ⟨by omega, by omega⟩) rfl rfl ?_
              | refine r_idx_cnd' tab_ok rfl rfl rfl rfl rfl rfl rfl (by first | exact fun _ => rfl | exact cs1 | exact cs2) rfl rfl (by intro h; simp at h; exact ⟨by omega, by omega⟩) rfl rfl ?_
              | refine r_and_cnd rfl rfl rfl rfl rfl rfl rfl rfl rfl rfl ?_
              | refine r_or_cnd rfl rfl rfl rfl rfl rfl rfl rfl rfl rfl ?_
              | refine r_or rfl rfl rfl rfl rfl rfl rfl rfl ?_
              | refine r_and rfl rfl rfl rfl rfl rfl rfl rfl ?_
              | refine r_pick_t rfl rfl rfl rfl rfl rfl rfl ?_
              | refine r_pick_f rfl rfl rfl rfl rfl rfl rfl ?_
              | refine r_off rfl rfl rfl rfl rfl rfl ?_
              | refine r_len_on tab_ok rfl rfl rfl rfl rfl rfl rfl rfl rfl ?_
              | refine r_ev_on tab_ok rfl rfl rfl rfl rfl rfl (by first | exact trivial | exact ⟨by omega, by omega⟩ | omega) rfl ?_
              | refine r_ld_on tab_ok rfl rfl rfl rfl rfl rfl rfl ?_
              | refine r_build tab_ok rfl rfl rfl rfl rfl rfl ?_
              | refine r_bstr tab_ok rfl rfl rfl rfl rfl rfl rfl rfl rfl rfl ?_
              | refine r_build_cnd tab_ok rfl rfl rfl rfl rfl (by first | exact fun _ => rfl | exact cs1) rfl rfl rfl ?_
              | refine r_built_cnd tab_ok rfl rfl rfl rfl rfl rfl rfl rfl (by first | exact fun _ => rfl | exact cs1) rfl rfl rfl ?_
              | refine r_rem rfl rfl rfl rfl rfl rfl (by omega) rfl ?_
              | refine r_built0 tab_ok rfl rfl rfl rfl rfl rfl rfl ?_
              | refine r_built tab_ok rfl rfl rfl rfl rfl rfl rfl rfl rfl ?_
              | refine r_range tab_ok rfl rfl rfl rfl rfl rfl rfl ?_
              | refine r_next rfl rfl rfl rfl (by assumption) rfl rfl rfl ?_
              | refine r_next_end rfl rfl rfl rfl (by assumption) rfl rfl rfl ?_
              | refine r_nilck rfl rfl rfl rfl rfl rfl rfl ?_
              | refine r_rstr tab_ok rfl rfl rfl rfl rfl rfl rfl rfl ?_
              | refine r_rsstr tab_ok rfl rfl rfl rfl rfl rfl rfl rfl rfl rfl ?_
              | refine r_bstr' tab_ok rfl rfl rfl rfl rfl rfl rfl rfl rfl ?_
              | refine r_rowstr tab_ok rfl rfl rfl rfl rfl rfl rfl rfl rfl rfl ?_
              | refine r_strd tab_ok rfl rfl rfl rfl rfl rfl (by omega) rfl rfl rfl ?_
              | refine r_idxr tab_ok rfl rfl rfl rfl rfl rfl rfl rfl (by first | exact ⟨by omega, by omega⟩ | (simp; omega)) rfl ?_
              | refine r_lde tab_ok rfl rfl rfl rfl rfl (by omega) rfl rfl rfl rfl ?_
              | refine r_idxr_cnd tab_ok rfl rfl rfl rfl rfl rfl rfl rfl (by first | exact fun _ => rfl | exact cs1 | exact cs2) rfl rfl (by first | (intro _; exact ⟨by omega, by omega⟩) | (intro h; simp at h ⊢; omega)) rfl ?_
              | refine r_lde_cnd tab_ok rfl rfl rfl rfl rfl rfl rfl (by first | exact fun _ => rfl | exact cs1 | exact cs2) (by omega) rfl rfl rfl rfl ?_
              | refine r_cut tab_ok rfl rfl rfl rfl rfl rfl rfl rfl (by first | exact ⟨by simp, by simp; omega, by simp⟩ | (simp; omega)) rfl ?_
              | refine r_append tab_ok rfl rfl rfl rfl rfl rfl rfl rfl rfl (by first | omega | (simp; omega)) rfl ?_
              | refine r_append_nil tab_ok rfl rfl rfl rfl rfl rfl rfl rfl (by first | omega | (simp; omega)) rfl ?_)
            | refine ret1 (by first | exact .inl rfl | exact .inr rfl) rfl rfl rfl ?_
            | refine ret1_row (by first | exact .inl rfl | exact .inr rfl) rfl rfl rfl ?_
            | refine ret2 (by first | exact .inl rfl | exact .inr rfl) rfl rfl rfl rfl ?_ ?_
            | refine retM1 (by first | exact .inl rfl | exact .inr rfl) rfl rfl rfl rfl rfl ?_
            | exact retM0 (by first | exact .inl rfl | exact .inr rfl) rfl rfl rfl
            | refine awp_cond_t rfl ?_
            | refine awp_cond_f rfl ?_)
          refine r_call_cnd (fun _ => awake_ok) call7 rfl rfl rfl rfl (by first | exact fun _ => rfl | exact cs1 | exact cs2 | exact cs3) (by repeat' first | exact trivial | exact Sub.refl _ | exact Sub.nil _ | refine Sub.agg ?_ | apply And.intro) rfl rfl rfl rfl ?_
          repeat (first
            | refine awp_seq ?_
            | refine thenA_normal ?_
            | refine awp_block ?_
            | refine a_region ?_
            | refine a_draw1 mixed_ok (by kernel_rfl) ?_
            | refine awp_ret ?_
            | refine awp_exit ?_
            | refine thenA_exit ?_
            | refine thenA_ret ?_
            | refine blockA_normal ?_
            | refine blockA_ret ?_
            | refine blockA_hit rfl ?_
            | refine blockA_miss rfl ?_
            | refine awp_skip ?_
            | refine r_done ?_
            | refine r_done' ?_
            | (refine r_id ?_; first
              | refine r_len tab_ok rfl rfl rfl rfl rfl rfl rfl ?_
              | refine r_ev tab_ok rfl rfl rfl rfl (by first | exact trivial | exact ⟨by omega, by omega⟩ | omega | exact ⟨by omega, by omega, by omega, by omega⟩ | exact Nat.le_of_ble_eq_true rfl) rfl ?_
              | refine r_ld tab_ok rfl rfl rfl rfl rfl ?_
              | refine r_idx tab_ok rfl rfl rfl rfl rfl rfl rfl (by first | exact ⟨by omega, by omega⟩ | (simp; omega)) rfl rfl ?_
              | refine r_idxd tab_ok rfl rfl rfl rfl rfl rfl rfl (by decide) rfl rfl rfl ?_
              | refine r_wr tab_ok rfl rfl rfl rfl rfl ?_
              | refine r_st tab_ok rfl rfl rfl rfl ?_
              | refine r_len_cnd tab_ok rfl rfl rfl rfl rfl rfl (by first | exact fun _ => rfl | exact cs1) rfl rfl rfl ?_
              | refine r_ev_cnd tab_ok rfl rfl rfl rfl rfl rfl (by first | exact fun _ => rfl | exact cs1 | exact cs2 | exact cs3) (by first | exact fun _ => trivial | (intro h; simp at h; first | exact ⟨by omega, by omega⟩ | omega)) rfl ?_
              | refine r_ld_cnd tab_ok rfl rfl rfl rfl rfl rfl (by first | exact fun _ => rfl | exact cs1 | exact cs2 | exact cs3) rfl ?_
              | refine r_idx_cnd tab_ok rfl rfl rfl rfl rfl rfl rfl (by first | exact fun _ => rfl | exact cs1 | exact cs2) rfl rfl (by exact ⟨by omega, by omega⟩) rfl rfl ?_
              | refine r_idx_cnd' tab_ok rfl rfl rfl rfl rfl rfl rfl (by first | exact fun _ => rfl | exact cs1 | exact cs2) rfl rfl (by intro h; simp at h; exact ⟨by omega, by omega⟩) rfl rfl ?_
              | refine r_and_cnd rfl rfl rfl rfl rfl rfl rfl rfl rfl rfl ?_
              | refine r_or_cnd rfl rfl rfl rfl rfl rfl rfl rfl rfl rfl ?_
              | refine r_or rfl rfl rfl rfl rfl rfl rfl rfl ?_
              | refine r_and rfl rfl rfl rfl rfl rfl rfl rfl ?_
              | refine r_pick_t rfl rfl rfl rfl rfl rfl rfl ?_
              | refine r_pick_f rfl rfl rfl rfl rfl rfl rfl ?_
              | refine r_off rfl rfl rfl rfl rfl rfl ?_
              | refine r_len_on tab_ok rfl rfl rfl rfl rfl rfl rfl rfl rfl ?_
              | refine r_ev_on tab_ok rfl rfl rfl rfl rfl rfl (by first | exact trivial | exact ⟨by omega, by omega⟩ | omega) rfl ?_
              | refine r_ld_on tab_ok rfl rfl rfl rfl rfl rfl rfl ?_
              | refine r_build tab_ok rfl rfl rfl rfl rfl rfl ?_
              | refine r_bstr tab_ok rfl rfl rfl rfl rfl rfl rfl rfl rfl rfl ?_
              | refine r_build_cnd tab_ok rfl rfl rfl rfl rfl (by first | exact fun _ => rfl | exact cs1) rfl rfl rfl ?_
              | refine r_built_cnd tab_ok rfl rfl rfl rfl rfl rfl rfl rfl (by first | exact fun _ => rfl | exact cs1) rfl rfl rfl ?_
              | refine r_rem rfl rfl rfl rfl rfl rfl (by omega) rfl ?_
              | refine r_built0 tab_ok rfl rfl rfl rfl rfl rfl rfl ?_
              | refine r_built tab_ok rfl rfl rfl rfl rfl rfl rfl rfl rfl ?_
              | refine r_range tab_ok rfl rfl rfl rfl rfl rfl rfl ?_
              | refine r_next rfl rfl rfl rfl (by assumption) rfl rfl rfl ?_
              | refine r_next_end rfl rfl rfl rfl (by assumption) rfl rfl rfl ?_
              | refine r_nilck rfl rfl rfl rfl rfl rfl rfl ?_
              | refine r_rstr tab_ok rfl rfl rfl rfl rfl rfl rfl rfl ?_
              | refine r_rsstr tab_ok rfl rfl rfl rfl rfl rfl rfl rfl rfl rfl ?_
              | refine r_bstr' tab_ok rfl rfl rfl rfl rfl rfl rfl rfl rfl ?_
              | refine r_rowstr tab_ok rfl rfl rfl rfl rfl rfl rfl rfl rfl rfl ?_
              | refine r_strd tab_ok rfl rfl rfl rfl rfl rfl (by omega) rfl rfl rfl ?_
              | refine r_idxr tab_ok rfl rfl rfl rfl rfl rfl rfl rfl (by first | exact ⟨by omega, by omega⟩ | (simp; omega)) rfl ?_
              | refine r_lde tab_ok rfl rfl rfl rfl rfl (by omega) rfl rfl rfl rfl ?_
              | refine r_idxr_cnd tab_ok rfl rfl rfl rfl rfl rfl rfl rfl (by first | exact fun _ => rfl | exact cs1 | exact cs2) rfl rfl (by first | (intro _; exact ⟨by omega, by omega⟩) | (intro h; simp at h ⊢; omega)) rfl ?_
              | refine r_lde_cnd tab_ok rfl rfl rfl rfl rfl rfl rfl (by first | exact fun _ => rfl | exact cs1 | exact cs2) (by omega) rfl rfl rfl rfl ?_
              | refine r_cut tab_ok rfl rfl rfl rfl rfl rfl rfl rfl (by first | exact ⟨by simp, by simp; omega, by simp⟩ | (simp; omega)) rfl ?_
              | refine r_append tab_ok rfl rfl rfl rfl rfl rfl rfl rfl rfl (by first | omega | (simp; omega)) rfl ?_
              | refine r_append_nil tab_ok rfl rfl rfl rfl rfl rfl rfl rfl (by first | omega | (simp; omega)) rfl ?_)
            | refine ret1 (by first | exact .inl rfl | exact .inr rfl) rfl rfl rfl ?_
            | refine ret1_row (by first | exact .inl rfl | exact .inr rfl) rfl rfl rfl ?_
            | refine ret2 (by first | exact .inl rfl | exact .inr rfl) rfl rfl rfl rfl ?_ ?_
            | refine retM1 (by first | exact .inl rfl | exact .inr rfl) rfl rfl rfl rfl rfl ?_
            | exact retM0 (by first | exact .inl rfl | exact .inr rfl) rfl rfl rfl
            | refine awp_cond_t rfl ?_
            | refine awp_cond_f rfl ?_)
          exact Sub.of_eq rfl
end Go.Proofs.Ytiifoplihaimmaa
