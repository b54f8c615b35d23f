/- The law TokenSigns. -/
import Derived.Test.YtbjinibmkkmhkaaDooru2
import Derived.Test.YtbjinibmkkmhkaaDoorr7
namespace Go.Proofs.YtbjinibmkkmhkaaDoor
open Go Go.RowKit
set_option maxRecDepth 20000

theorem round_eq (k n : Int) (hn : 0 < n) : (k.tmod n + n).tmod n = k % n := by
  have h1 := Int.tmod_lt_of_pos k hn
  have h2 := Int.lt_tmod_of_pos k hn
  rw [Int.tmod_eq_emod_of_nonneg (by omega), Int.add_emod_right, Int.tmod_eq_emod]
  split
  · simp
  · rw [Int.sub_emod, Int.emod_emod_of_dvd _ (Int.dvd_refl n)]
    have : ((n.natAbs : Int)) % n = 0 := by rw [Int.natAbs_of_nonneg (by omega)]; exact Int.emod_self
    rw [this]; simp
theorem round_ok (k n : Int) (hn0 : 0 < n) (hn : n ≤ 4611686018427387904) : PCalls Tryd.prog 21 [.val (.int .i64 k), .val (.int .i64 n)] (.val (.int .i64 (k % n))) := by
  refine p_start Tryd.func21 Tryd.ntmps21 rfl rfl rfl fun S w => ?_
  have h1 := Int.tmod_lt_of_pos k hn0
  have h2 := Int.lt_tmod_of_pos k hn0
  have h3 := round_eq k n hn0
  repeat (first | refine awp_seq ?_ | refine thenA_normal ?_ | refine a_region ?_ | refine awp_ret ?_ | refine r_done ?_ | (refine r_id ?_; first | refine r_ev tab_ok rfl rfl rfl rfl (by first | exact trivial | exact ⟨by omega, by omega⟩ | omega | exact ⟨by omega, by omega, by omega, by omega⟩ | exact Nat.le_of_ble_eq_true rfl) rfl ?_ | refine r_rem rfl rfl rfl rfl rfl rfl (by omega) rfl ?_) | refine ret1 (by first | exact .inl rfl | exact .inr rfl) rfl rfl rfl ?_)
  generalize k.tmod n = t at h1 h2 h3 ⊢
  exact Sub.of_eq (by rw [← h3, Int.tmod_eq_emod_of_nonneg (by omega)])
def sgnL : List UInt8 := [33, 36, 37, 38, 42, 61, 62, 63, 94, 124, 126, 40, 41, 91, 93, 123, 125, 44, 58, 59, 60, 43, 46, 45, 64, 35]
def sgC (k : Nat) : UInt8 := sgnL.getD k 0
def sgtL : List Tk := [tkK 9 ⟨#[33]⟩, tkK 9 ⟨#[36]⟩, tkK 9 ⟨#[37]⟩, tkK 9 ⟨#[38]⟩, tkK 9 ⟨#[42]⟩, tkK 9 ⟨#[61]⟩, tkK 9 ⟨#[62]⟩, tkK 9 ⟨#[63]⟩, tkK 9 ⟨#[94]⟩, tkK 9 ⟨#[124]⟩, tkK 9 ⟨#[126]⟩, tkK 19 ⟨#[40]⟩, tkK 20 ⟨#[41]⟩, tkK 19 ⟨#[91]⟩, tkK 20 ⟨#[93]⟩, tkK 19 ⟨#[123]⟩, tkK 20 ⟨#[125]⟩, tkK 18 ⟨#[]⟩, tkK 16 ⟨#[]⟩, tkK 17 ⟨#[]⟩, tkK 9 ⟨#[60]⟩, tkK 9 ⟨#[43]⟩, tkK 9 ⟨#[46]⟩, tkK 9 ⟨#[45]⟩, tkK 9 ⟨#[64]⟩, tkK 9 ⟨#[35]⟩]
def sgK (k : Nat) : Tk := sgtL.getD k tk0
def sgS (ks : List Nat) : List UInt8 := ks.flatMap fun k => [sgC k, 32]
def sgT (ks : List Nat) : List Tk := ks.flatMap fun k => [sgK k, tkK 13 ⟨#[]⟩]
def kyF (l : List Int) : List Nat := l.map fun z => (z % 26).toNat
theorem r_scutE {P : Program} {tab : List (Nat × TE)} {ops : Array Oper} {N : Nat} {K : AS → Prop} {r : List Oper} {fo fo' : Option (List Nat)} {M : List AB} {F : List (Nat × AV)} {dt : Tmp} {o : Oper} (ht : TyTab P tab) {T : Nat} {x : Operand} {lo hi : Option Operand} {a b : Option Int} {s e : ByteArray} (hg : o.guard = none) (ho : o.op = .slice T x lo hi none) (hT : kindAt tab T = some .str) (hx : aval (look F) x = .val (.string s)) (hlo : cutLo (aval (look F)) lo = some a) (hhi : cutLo (aval (look F)) hi = some b)
    (hdd : o.dst = some dt) (hd : dstB o.dst N = true) (hb : 0 ≤ a.getD 0 ∧ a.getD 0 ≤ b.getD s.size ∧ b.getD s.size ≤ (s.size : Int)) (he : s.extract (a.getD 0).toNat (b.getD s.size).toNat = e) (hp : popF fo 0 = some fo') (k : RunX P ops N K r fo' M ((dt, .val (.string e)) :: F)) : RunX P ops N K (o :: r) fo M F := by
  subst he
  exact r_scut ht hg ho hT hx hlo hhi hdd hd hb hp k
def iD' (n : Int) : D := .val (.int .i64 n)
end Go.Proofs.YtbjinibmkkmhkaaDoor
