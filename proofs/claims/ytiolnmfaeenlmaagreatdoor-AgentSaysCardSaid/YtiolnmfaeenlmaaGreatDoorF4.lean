import Derived.Test.YtiolnmfaeenlmaaGreatDoorWd
import Derived.Test.YtiolnmfaeenlmaaGreatDoorG5
import Derived.Laws.DeepNot64
import Derived.Test.YtiolnmfaeenlmaaGreatDoorK7
/- strings.Fields of a text of plain letters: where its words stand. -/
namespace Go.Proofs.YtiolnmfaeenlmaaGreatDoor
open Go Go.RowKit

def ascB (b : UInt8) : Bool := decide (b.toNat = 32) || (decide (9 ≤ b.toNat) && decide (b.toNat ≤ 13))
def byteA (s : ByteArray) (i : Nat) : UInt8 := s.data.toList.getD i 0
/-- Where the words stand. -/
def spP : Option Nat → Nat → List UInt8 → List (Nat × Nat)
  | none, _, [] => []
  | some a, pos, [] => [(a, pos)]
  | none, pos, b :: r => if ascB b then spP none (pos + 1) r else spP (some pos) (pos + 1) r
  | some a, pos, b :: r => if ascB b then (a, pos) :: spP none (pos + 1) r else spP (some a) (pos + 1) r
def cutF (s : ByteArray) (L : List (Nat × Nat)) : List ByteArray := L.map fun p => s.extract p.1 p.2
def fldF (s : ByteArray) : List ByteArray := cutF s (spP none 0 s.data.toList)
def cntS (x : Nat × Bool) (b : UInt8) : Nat × Bool := (x.1 + (if x.2 && !ascB b then 1 else 0), ascB b)
/-- A text of plain letters: each byte is below 128. -/
def plainS (s : ByteArray) : Bool := s.data.toList.all fun b => decide (b.toNat < 128)
/-- What the table of White says. -/
def ascV (b : UInt8) : Value := .int .u8 ((ascB b).toNat : Int)
section
variable {P : Program} {o : Oper} {M : List AB} {ρ : Operand → AV}
def smallV (v : Value) : Prop := ∃ k : Nat, k < 128 ∧ v = .int .u8 (k : Int)
end
end Go.Proofs.YtiolnmfaeenlmaaGreatDoor

/- strings.Fields, walked, for texts of plain letters. -/
namespace Go.Proofs.YtiolnmfaeenlmaaGreatDoor
open Go Go.RowKit

def sF (s : ByteArray) : D := .val (.string s)
def emF : ByteArray := ⟨#[]⟩
structure FS2 (s : ByteArray) where
  i : Nat
  fs : Nat
  out : List ByteArray
  hi : fs ≤ i ∧ i ≤ s.size
  hf : fs < i ∨ i = s.size ∨ ascB (byteA s i) = false
  eq : out ++ cutF s (spP (if fs < i then some fs else none) i (s.data.toList.drop i)) = fldF s
theorem awp_cutx {σ : Type} {cx : Cx} {s : AS} {Q : Exit → AS → Prop} (IS : σ → AS) {c b : Code} (h1 : AWp cx c s (fun e s'' => e = .normal ∧ ∃ x : σ, Fits cx s'' (IS x))) (h2 : ∀ x, AWp cx b (IS x) Q) : AWp cx c s (thenA (fun s'' => AWp cx b s'' Q) Q) :=
  awp_mono h1 fun e s'' h => by
    obtain ⟨rfl, x, h⟩ := h
    exact thenA_normal (awp_fits h (h2 x))
def fill (n : Nat) (out : List ByteArray) : List ByteArray := out ++ List.replicate (n - out.length) emF
end Go.Proofs.YtiolnmfaeenlmaaGreatDoor

/- strings.Builder; small letters; words among others. -/
namespace Go.Proofs.YtiolnmfaeenlmaaGreatDoor
open Go Go.RowKit
set_option maxRecDepth 20000

theorem underB : Tryz.prog.underlying 87 = some (.pointer 89) := by kernel_rfl
theorem underU : Tryz.prog.underlying 111 = some .unsafePointer := by kernel_rfl
theorem underP : Tryz.prog.underlying 105 = some (.pointer 5) := by kernel_rfl
theorem cells5 : Tryz.prog.cellsOf 5 = 1 := by kernel_rfl
theorem liesB : liesAt Tryz.prog Tryz.prog.depth 89 (2 / Tryz.prog.cellsOf 89) 0 89 1 = true := by kernel_rfl
def bM (v : Nat) (l : List UInt8) : List AB := [.box 89 [selfP, .row 1 v], .row v 5 1 (l.map bD)]
theorem check_nil (v : Nat) (l : List UInt8) : MCalls Tryz.prog 90 [.box 89 [.val (.pointer none), .row 1 v], .row v 5 1 (l.map bD)] [.ptr 0 0] [.box 89 [.ptr 0 0, .row 1 v], .row v 5 1 (l.map bD)] (.tup []) := by
  refine m_start Tryz.func90 Tryz.ntmps90 rfl rfl rfl fun S w β => ?_
  repeat (first | refine awp_seq ?_ | refine a_region ?_ | (refine r_id ?_; first | refine r_ev tab_ok rfl rfl rfl rfl byE rfl ?_ | refine r_ld tab_ok rfl rfl rfl rfl rfl ?_ | refine r_nilck rfl rfl rfl rfl rfl rfl rfl ?_))
  refine r_by (fun _ => astep_eqnil_nil underB rfl rfl rfl) rfl rfl rfl rfl rfl ?_
  repeat (first | refine thenA_normal ?_ | refine a_region ?_ | refine r_done ?_ | (refine r_id ?_; first | refine r_ev tab_ok rfl rfl rfl rfl byE rfl ?_) | refine awp_cond_t rfl ?_)
  refine r_by1 (astep_tounsafe tab_ok underB underU rfl rfl rfl rfl rfl) rfl rfl rfl rfl rfl ?_
  refine r_by (fun _ => astep_noescape Tryz.func111 rfl rfl rfl rfl rfl) rfl rfl rfl rfl rfl ?_
  refine r_by1 (astep_fromunsafe tab_ok underU underB rfl rfl rfl rfl liesB) rfl rfl rfl rfl rfl ?_
  repeat (first | refine r_done ?_ | (refine r_id ?_; first | refine r_ev tab_ok rfl rfl rfl rfl byE rfl ?_ | refine r_st tab_ok rfl rfl rfl rfl ?_ | refine r_nilck rfl rfl rfl rfl rfl rfl rfl ?_) | exact retM0 byO rfl rfl rfl)
theorem check_ptr (v : Nat) (l : List UInt8) : MCalls Tryz.prog 90 [.box 89 [.ptr 0 0, .row 1 v], .row v 5 1 (l.map bD)] [.ptr 0 0] [.box 89 [.ptr 0 0, .row 1 v], .row v 5 1 (l.map bD)] (.tup []) := by
  refine m_start Tryz.func90 Tryz.ntmps90 rfl rfl rfl fun S w β => ?_
  repeat (first | refine awp_seq ?_ | refine a_region ?_ | (refine r_id ?_; first | refine r_ev tab_ok rfl rfl rfl rfl byE rfl ?_ | refine r_ld tab_ok rfl rfl rfl rfl rfl ?_ | refine r_nilck rfl rfl rfl rfl rfl rfl rfl ?_))
  refine r_by (fun _ => astep_eqnil_ptr underB rfl rfl rfl) rfl rfl rfl rfl rfl ?_
  repeat (first | refine awp_seq ?_ | refine thenA_normal ?_ | refine a_region ?_ | refine r_done ?_ | (refine r_id ?_; first | refine r_ev tab_ok rfl rfl rfl rfl byE rfl ?_ | refine r_ld tab_ok rfl rfl rfl rfl rfl ?_ | refine r_nilck rfl rfl rfl rfl rfl rfl rfl ?_) | refine awp_cond_f rfl ?_)
  refine r_by (fun _ => astep_neqself tab_ok underB rfl rfl rfl rfl) rfl rfl rfl rfl rfl ?_
  repeat (first | refine thenA_normal ?_ | refine awp_skip ?_ | refine r_done ?_ | exact retM0 byO rfl rfl rfl | refine awp_cond_f rfl ?_)
theorem check_ok (v : Nat) (l : List UInt8) : MCalls Tryz.prog 90 [.box 89 [selfP, .row 1 v], .row v 5 1 (l.map bD)] [.ptr 0 0] [.box 89 [selfP, .row 1 v], .row v 5 1 (l.map bD)] (.tup []) := mcall_self (check_nil v l) (check_ptr v l)

/-- (*strings.Builder).WriteByte. -/
theorem write_ok (l : List UInt8) (c : UInt8) (hl : l.length ≤ 70368744177664) : MCalls Tryz.prog 58 [.box 89 [selfP, .row 1 0], .row 0 5 1 (l.map bD)] [.ptr 0 0, .val (.int .u8 c.toNat)] [.box 89 [selfP, .row 1 2], .row 2 5 1 ((l ++ [c]).map bD)] (.val .nilIface) := by
  rw [List.map_append]
  refine m_start Tryz.func58 Tryz.ntmps58 rfl rfl rfl fun S w β => ?_
  have hlm : (l.map bD).length = l.length := List.length_map _
  repeat (first | refine awp_seq ?_ | refine a_region ?_ | refine r_done ?_ | (refine r_id ?_; first | refine r_ev tab_ok rfl rfl rfl rfl byE rfl ?_))
  refine r_mcall [0, 1] (check_ok 0 l) call90 rfl rfl ⟨rfl, rfl, trivial⟩ (by decide) ⟨Sub.refl _, trivial⟩ rfl rfl rfl rfl rfl rfl rfl ?_
  repeat (first | refine awp_seq ?_ | refine thenA_normal ?_ | refine a_region ?_ | refine awp_ret ?_ | refine r_done ?_ | (refine r_id ?_; first | refine r_ev tab_ok rfl rfl rfl rfl byE rfl ?_ | refine r_ld tab_ok rfl rfl rfl rfl rfl ?_ | refine r_st tab_ok rfl rfl rfl rfl ?_ | refine r_built tab_ok rfl rfl rfl rfl rfl rfl rfl rfl rfl ?_ | refine r_nilck rfl rfl rfl rfl rfl rfl rfl ?_ | refine r_append tab_ok rfl rfl rfl rfl rfl rfl rfl rfl rfl (by first | omega | (simp; omega)) rfl ?_) | refine retM1 byO rfl rfl rfl rfl rfl ?_)
  exact Sub.refl _

/-- (*strings.Builder).String. -/
theorem string_ok (v : Nat) (l : List UInt8) (hl : l.length ≤ 70368744177664) : MCalls Tryz.prog 59 [.box 89 [selfP, .row 1 v], .row v 5 1 (l.map bD)] [.ptr 0 0] [.box 89 [selfP, .any], .gone] (.val (.string ⟨l.toArray⟩)) := by
  rcases List.eq_nil_or_concat l with rfl | ⟨l', c, rfl⟩
  · refine m_startF Tryz.func59 Tryz.ntmps59 rfl rfl rfl fun S w β => ?_
    repeat (first | refine awp_seq ?_ | refine a_region ?_ | refine a_draw1 mixed_ok (by kernel_rfl) ?_ | refine r_done ?_ | (refine r_id ?_; first | refine r_ev tab_ok rfl rfl rfl rfl byE rfl ?_ | refine r_ld tab_ok rfl rfl rfl rfl rfl ?_ | refine r_nilck rfl rfl rfl rfl rfl rfl rfl ?_))
    refine r_usd0 underP rfl rfl rfl rfl rfl rfl rfl ?_
    repeat (first | (refine r_id ?_; first | refine r_ev tab_ok rfl rfl rfl rfl byE rfl ?_ | refine r_ld tab_ok rfl rfl rfl rfl rfl ?_ | refine r_nilck rfl rfl rfl rfl rfl rfl rfl ?_))
    refine r_by1 (astep_len_row tab_ok rfl rfl rfl rfl) rfl rfl rfl rfl rfl ?_
    refine r_ustr0 rfl rfl rfl rfl rfl rfl rfl rfl ?_
    repeat (first | refine thenA_normal ?_ | refine awp_ret ?_ | refine r_done' ?_ | (refine r_id ?_; first | refine r_ev tab_ok rfl rfl rfl rfl byE rfl ?_))
    exact retF1 [.box 89 [selfP, .any], .gone] [(2, .val (.string ⟨#[]⟩))] (fits_convM byV byV ⟨trivial, trivial, trivial⟩) byO rfl rfl rfl rfl rfl (Sub.refl _)
  · refine m_startF Tryz.func59 Tryz.ntmps59 rfl rfl rfl fun S w β => ?_
    repeat (first | refine awp_seq ?_ | refine a_region ?_ | refine r_done ?_ | (refine r_id ?_; first | refine r_ev tab_ok rfl rfl rfl rfl byE rfl ?_))
    refine a_draw mixed_ok [0,0,0,1,1,0,0,0,1,1,2,0] (by kernel_rfl) ?_
    repeat (first | (refine r_id ?_; first | refine r_ev tab_ok rfl rfl rfl rfl byE rfl ?_ | refine r_ld tab_ok rfl rfl rfl rfl rfl ?_ | refine r_nilck rfl rfl rfl rfl rfl rfl rfl ?_))
    refine r_usd (by simp) rfl rfl rfl rfl rfl rfl rfl ?_
    repeat (first | (refine r_id ?_; first | refine r_ev tab_ok rfl rfl rfl rfl byE rfl ?_ | refine r_ld tab_ok rfl rfl rfl rfl rfl ?_ | refine r_nilck rfl rfl rfl rfl rfl rfl rfl ?_))
    refine r_by1 (astep_len_row tab_ok rfl rfl rfl rfl) rfl rfl rfl rfl rfl ?_
    refine r_ustr (by simp) underP cells5 rfl rfl rfl rfl rfl rfl rfl rfl ?_
    repeat (first | refine thenA_normal ?_ | refine awp_ret ?_ | refine r_done' ?_ | (refine r_id ?_; first | refine r_ev tab_ok rfl rfl rfl rfl byE rfl ?_))
    exact retF1 [.box 89 [selfP, .any], .gone] [(2, .val (.string ⟨(l'.concat c).toArray⟩))] (fits_convM byV byV ⟨trivial, trivial, trivial⟩) byO rfl rfl rfl rfl rfl (Sub.refl _)
theorem plower_ok (s : ByteArray) (hs : s.size ≤ 70368744177663) : PCalls Tryz.prog 39 [.val (.string s)] (.val (.string (lowS s))) := by
  refine p_start Tryz.func39 Tryz.ntmps39 rfl rfl rfl fun S w => ?_
  have hsz := str_size s
  repeat (first | refine awp_seq ?_ | refine thenA_normal ?_ | refine awp_block ?_ | refine a_region ?_ | refine r_done ?_ | (refine r_id ?_; first | refine r_ev tab_ok rfl rfl rfl rfl byE rfl ?_ | refine r_wr tab_ok rfl rfl rfl rfl rfl ?_))
  refine a_loop (σ := {i : Nat // i ≤ s.size}) (fun x => [.box 89 [.alt (.val (.pointer none)) (.ptr 0 0), .row 1 0], .row 0 5 1 ((lowL (s.data.toList.take x.1)).map bD)]) (fun x => [(0, .val (.string s)), (3, .ptr 0 0), (7, .val (.int .i64 s.size)), (8, .val (.int .i64 x.1))]) (fun x => s.size - x.1) ⟨0, by omega⟩ (fits_conv byV byV) ?_
  rintro ⟨i, hi⟩
  dsimp only
  have hll : (lowL (s.data.toList.take i)).length ≤ s.size := by simp [lowL]; omega
  repeat (first | refine awp_seq ?_ | refine a_region ?_ | refine r_done ?_ | (refine r_id ?_; first | refine r_ev tab_ok rfl rfl rfl rfl byE rfl ?_))
  refine awp_cond_p rfl (fun hlt => ?_) (fun hge => ?_)
  · have hi' : i < s.data.toList.length := by omega
    repeat (first | refine awp_seq ?_ | refine thenA_normal ?_ | refine awp_block ?_ | refine a_region ?_ | refine awp_skip ?_ | refine r_done ?_ | (refine r_id ?_; first | refine r_ev tab_ok rfl rfl rfl rfl byE rfl ?_ | refine r_ev_cnd tab_ok rfl rfl rfl rfl rfl rfl byC (by first | exact fun _ => trivial | (intro h; simp at h; first | exact ⟨by omega, by omega⟩ | omega)) rfl ?_ | refine r_and rfl rfl rfl rfl rfl rfl rfl rfl ?_))
    have hb : (s.data.toList.getD ((i : Int)).toNat 0) = s.data.toList[i] := by rw [Int.toNat_natCast, getD_byte hi']
    rw [hb]
    have htk : lowL (s.data.toList.take (i + 1)) = lowL (s.data.toList.take i) ++ [lowB s.data.toList[i]] := by
      rw [lowL, List.take_add_one, List.getElem?_eq_getElem hi']; simp [lowL]
    generalize s.data.toList[i] = b at htk ⊢
    refine awp_cond rfl (fun h => ?_) (fun h => ?_)
    · have h' : 65 ≤ b.toNat ∧ b.toNat ≤ 90 := by simp at h; omega
      repeat (first | refine thenA_normal ?_ | refine a_region ?_ | refine r_done ?_ | (refine r_id ?_; first | refine r_ev tab_ok rfl rfl rfl rfl byE rfl ?_))
      rw [← lowB_up h']
      refine r_mcall [0, 1] (write_ok _ (lowB b) (by omega)) call58 rfl rfl ⟨rfl, rfl, trivial⟩ (by decide) ⟨Sub.refl _, Sub.refl _, trivial⟩ rfl rfl rfl rfl rfl rfl rfl ?_
      repeat (first | refine thenA_normal ?_ | refine a_region ?_ | refine r_done ?_ | (refine r_id ?_; first | refine r_ev tab_ok rfl rfl rfl rfl byE rfl ?_))
      refine ⟨⟨i + 1, by omega⟩, by dsimp only; omega, ?_⟩
      dsimp only
      rw [htk]
      exact fits_conv byV byV
    · have h' : ¬ (65 ≤ b.toNat ∧ b.toNat ≤ 90) := by simp at h; omega
      repeat (first | refine thenA_normal ?_ | refine a_region ?_ | refine awp_skip ?_ | (refine r_id ?_; first | refine r_ev tab_ok rfl rfl rfl rfl byE rfl ?_))
      refine r_mcall [0, 1] (write_ok _ b (by omega)) call58 rfl rfl ⟨rfl, rfl, trivial⟩ (by decide) ⟨Sub.refl _, Sub.refl _, trivial⟩ rfl rfl rfl rfl rfl rfl rfl ?_
      repeat (first | refine thenA_normal ?_ | refine a_region ?_ | refine r_done ?_ | (refine r_id ?_; first | refine r_ev tab_ok rfl rfl rfl rfl byE rfl ?_))
      rw [lowB_no h'] at htk
      refine ⟨⟨i + 1, by omega⟩, by dsimp only; omega, ?_⟩
      dsimp only
      rw [htk]
      exact fits_conv byV byV
  · have : i = s.size := by omega
    subst this
    repeat (first | refine awp_seq ?_ | refine a_region ?_ | refine awp_exit ?_)
    refine r_mcall [0, 1] (string_ok 0 _ (by omega)) call59 rfl rfl ⟨rfl, rfl, trivial⟩ (by decide) ⟨Sub.refl _, trivial⟩ rfl rfl rfl rfl rfl rfl rfl ?_
    repeat (first | refine thenA_normal ?_ | refine awp_ret ?_ | refine r_done ?_ | (refine r_id ?_; first | refine r_ev tab_ok rfl rfl rfl rfl byE rfl ?_) | refine ret1 byO rfl rfl rfl ?_)
    exact Sub.of_eq (by rw [List.take_of_length_le (by omega)]; rfl)
theorem subs_refl : ∀ l : List AV, Subs l l
  | [] => trivial
  | x :: l => ⟨Sub.refl x, subs_refl l⟩
/-- slices.IndexFunc: the first place, or -1. -/
def findR {α : Type} (p : α → Bool) (l : List α) : Int := if l.findIdx p < l.length then l.findIdx p else -1
theorem findR_any {α : Type} (p : α → Bool) (l : List α) : decide (0 ≤ findR p l) = l.any p := by
  rw [findR]
  rw [Bool.eq_iff_iff, decide_eq_true_eq, List.any_eq_true, ← List.findIdx_lt_length]
  split <;> simp_all
def idxF (l : List ByteArray) (w : ByteArray) : Int := if l.findIdx (fun x => decide (w = x)) < l.length then l.findIdx (fun x => decide (w = x)) else -1
end Go.Proofs.YtiolnmfaeenlmaaGreatDoor

/- The engine: the last part of an own row, cleared, whatever its elements. -/
namespace Go.Proofs.YtiolnmfaeenlmaaGreatDoor
open Go Go.RowKit

section
variable {P : Program} {o : Oper} {M M' : List AB} {ρ : Operand → AV} {out : AV} {tab : List (Nat × TE)}
end
end Go.Proofs.YtiolnmfaeenlmaaGreatDoor
