/- The engine, part 11: plain operations by reckoning; the rules as walks use them. -/
import Derived.Test.YtajbbcnfohbieaaEj
namespace Go.Proofs.Ytajbbcnfohbieaa
open Go Go.RowKit

/-- What a number must be to be of a kind. -/
@[reducible] def rng : IntKind → Int → Prop
  | .i8, n => -128 ≤ n ∧ n ≤ 127
  | .i16, n => -32768 ≤ n ∧ n ≤ 32767
  | .i32, n => -2147483648 ≤ n ∧ n ≤ 2147483647
  | .i64, n => -9223372036854775808 ≤ n ∧ n ≤ 9223372036854775807
  | .u8, n => 0 ≤ n ∧ n ≤ 255
  | .u16, n => 0 ≤ n ∧ n ≤ 65535
  | .u32, n => 0 ≤ n ∧ n ≤ 4294967295
  | .u64, n => 0 ≤ n ∧ n ≤ 18446744073709551615
theorem rng_wrap {k : IntKind} {n : Int} (h : rng k n) : k.wrap n = n := by
  cases k <;> simp only [rng] at h <;> simp [IntKind.wrap, IntKind.bits, IntKind.signed] <;> omega
def kEq : IntKind → IntKind → Bool
  | .i8, .i8 | .i16, .i16 | .i32, .i32 | .i64, .i64 | .u8, .u8 | .u16, .u16 | .u32, .u32 | .u64, .u64 => true
  | _, _ => false
theorem kEq_eq {a b : IntKind} (h : kEq a b = true) : a = b := by cases a <;> cases b <;> first | rfl | cases h

def evInt (op : BinOp) (k : IntKind) (a b : Int) : Option (AV × Prop) :=
  match op with
  | .add => some (.val (.int k (a + b)), rng k (a + b))
  | .sub => some (.val (.int k (a - b)), rng k (a - b))
  | .mul => some (.val (.int k (a * b)), rng k (a * b))
  | .quo => some (.val (.int k (a / b)), 0 ≤ a ∧ 0 < b ∧ rng k (a / b))
  | .rem => some (.val (.int k (a % b)), 0 ≤ a ∧ 0 < b)
  | .eql => some (.val (.bool (decide (a = b))), True)
  | .neq => some (.val (.bool (!decide (a = b))), True)
  | .lss => some (.val (.bool (decide (a < b))), True)
  | .leq => some (.val (.bool (decide (a ≤ b))), True)
  | .gtr => some (.val (.bool (decide (b < a))), True)
  | .geq => some (.val (.bool (decide (b ≤ a))), True)
  | _ => none
def evBin (tab : List (Nat × TE)) (op : BinOp) (t : Nat) (x y : AV) : Option (AV × Prop) :=
  match x, y with
  | .val (.int k a), .val (.int k' b) => bif kEq k k' then evInt op k a b else none
  | .val (.string s), .val (.string r) => match op with
    | .eql => some (.val (.bool (decide (s = r))), True)
    | .neq => some (.val (.bool (!decide (s = r))), True)
    | .add => some (.val (.string (s ++ r)), s.size + r.size ≤ 9223372036854775807)
    | _ => none
  | .val (.bool p), .val (.bool q) => match kindAt tab t with
    | some .bool => match op with
      | .eql => some (.val (.bool (p == q)), True)
      | .neq => some (.val (.bool (!(p == q))), True)
      | _ => none
    | _ => none
  | .sl _ es, .val (.slice none 0 0) => match op with
    | .eql => match elemOf_ tab t with
      | some _ => some (.ub es.isEmpty true, True)
      | none => none
    | _ => none
  | .val (.slice none 0 0), .val (.slice none 0 0) => match op with
    | .eql => match elemOf_ tab t with
      | some _ => some (.val (.bool true), True)
      | none => none
    | _ => none
  | _, _ => none
/-- A thing known, its head laid open. -/
def nf : AV → Option AV
  | .any => some .any
  | .val v => some (.val v)
  | .sl k es => some (.sl k es)
  | .ptr i o => some (.ptr i o)
  | .row i v => some (.row i v)
  | .eptr i v j o => some (.eptr i v j o)
  | .dptr l => some (.dptr l)
  | .agg l => some (.agg l)
  | .tup l => some (.tup l)
  | .cnd c x => some (.cnd c x)
  | .cl f c => some (.cl f c)
  | .ub p q => some (.ub p q)
  | .alt x y => some (.alt x y)
  | .pr p => some (.pr p)
  | .vw i v p => some (.vw i v p)
theorem nf_eq {x y : AV} (h : nf x = some y) : x = y := by cases x <;> cases h <;> rfl
def isAgg1 : AV → Bool
  | .agg _ => true
  | _ => false
/-- What is read, its head laid open. -/
def ldAV (te : TE) (l : List AV) : Option AV := match loadAV te l with
  | some x => nf x
  | none => none
theorem ldAV_eq {te : TE} {l : List AV} {x : AV} (h : ldAV te l = some x) : loadAV te l = some x := by
  unfold ldAV at h
  split at h
  · rename_i y hy; rw [hy, nf_eq h]
  · cases h

def ev (tab : List (Nat × TE)) (ρ : Operand → AV) : Op → Option (AV × Prop)
  | .move x => (nf (ρ x)).map fun y => (y, True)
  | .assign x => (nf (ρ x)).map fun y => (y, True)
  | .binOp op t x y _ => evBin tab op t (ρ x) (ρ y)
  | .unOp .not _ x => match ρ x with
    | .val (.bool b) => some (.val (.bool (!b)), True)
    | .ub p q => some (.ub q p, True)
    | _ => none
  | .unOp .neg _ x => match ρ x with
    | .val (.int k n) => some (.val (.int k (-n)), rng k (-n))
    | _ => none
  | .call { callee := .builtin .len, args := ⟨[x]⟩, argTypes := ⟨[t]⟩ } => match ρ x with
    | .val (.string s) => match kindAt tab t with
      | some .str => some (.val (.int .i64 s.size), True)
      | _ => none
    | .sl _ es => match elemOf_ tab t with
      | some _ => some (.val (.int .i64 es.length), True)
      | none => none
    | .val (.slice none 0 0) => match elemOf_ tab t with
      | some _ => some (.val (.int .i64 0), True)
      | none => none
    | _ => none
  | .call { callee := .builtin .min, args := ⟨[x, y]⟩, .. } => match ρ x, ρ y with
    | .val (.int k a), .val (.int _ b) => some (.val (.int k (min a b)), True)
    | _, _ => none
  | .call { callee := .builtin .max, args := ⟨[x, y]⟩, .. } => match ρ x, ρ y with
    | .val (.int k a), .val (.int _ b) => some (.val (.int k (max a b)), True)
    | _, _ => none
  | .field T x i => match ρ x with
    | .agg l => match fieldOf tab T i with
      | some (off, fe) => (ldAV fe (l.drop off)).map fun y => (y, True)
      | none => none
    | _ => none
  | .fieldAddr T x i => match fieldOf tab T i with
    | some (off, _) => match ρ x with
      | .ptr j o => some (.ptr j (o + off), True)
      | .dptr l => some (.dptr (l.drop off), True)
      | _ => none
    | none => none
  | .load T x => match ρ x with
    | .dptr l => match tget tab T with
      | some te => (ldAV te l).map fun y => (y, True)
      | none => none
    | _ => none
  | .extract x n => match ρ x with
    | .tup l => match l[n]? with
      | some y => (nf y).map fun y => (y, True)
      | none => none
    | _ => none
  | .convert T U x => match ρ x with
    | .val (.int _ n) => match kindAt tab T, kindAt tab U with
      | some _, some (.int k) => some (.val (.int k n), rng k n)
      | _, _ => none
    | _ => none
  | .index T x y => match ρ x, ρ y with
    | .val (.string s), .val (.int _ n) => match kindAt tab T with
      | some .str => some (.val (.int .u8 (s.data.toList.getD n.toNat 0).toNat), 0 ≤ n ∧ n < (s.size : Int))
      | _ => none
    | _, _ => none
  | _ => none

section
variable {P : Program} {tab : List (Nat × TE)} (ht : TyTab P tab) {o : Oper} {M : List AB} {ρ : Operand → AV} {out : AV} {c : Prop}
include ht
theorem evBin_sound {op : BinOp} {t u : TypeId} {x y : Operand} (ho : o.op = .binOp op t x y u) (h : evBin tab op t (ρ x) (ρ y) = some (out, c)) (hc : c) : AStep P o M ρ M out := by
  unfold evBin at h
  split at h
  · rename_i k a k' b hx hy
    cases hk : kEq k k' with
    | false => rw [hk] at h; cases h
    | true =>
      rw [hk] at h
      cases kEq_eq hk
      simp only [cond_true] at h
      unfold evInt at h
      cases op <;> simp only [Option.some.injEq, Prod.mk.injEq, reduceCtorEq] at h
      case add => obtain ⟨rfl, rfl⟩ := h; have := astep_add (P := P) (M := M) ho hx hy; rwa [rng_wrap hc] at this
      case sub => obtain ⟨rfl, rfl⟩ := h; have := astep_sub (P := P) (M := M) ho hx hy; rwa [rng_wrap hc] at this
      case mul => obtain ⟨rfl, rfl⟩ := h; have := astep_mul (P := P) (M := M) ho hx hy; rwa [rng_wrap hc] at this
      case quo =>
        obtain ⟨rfl, rfl⟩ := h
        have := astep_quo (P := P) (M := M) ho hx hy (by omega)
        rw [Int.tdiv_eq_ediv_of_nonneg hc.1, rng_wrap hc.2.2] at this
        exact this
      case rem => obtain ⟨rfl, rfl⟩ := h; exact astep_rem_pos ho hx hy hc.1 hc.2
      case eql => obtain ⟨rfl, rfl⟩ := h; exact astep_eql ho hx hy
      case neq => obtain ⟨rfl, rfl⟩ := h; exact astep_neq ho hx hy
      case lss => obtain ⟨rfl, rfl⟩ := h; exact astep_lss ho hx hy
      case leq => obtain ⟨rfl, rfl⟩ := h; exact astep_leq ho hx hy
      case gtr => obtain ⟨rfl, rfl⟩ := h; exact astep_gtr ho hx hy
      case geq => obtain ⟨rfl, rfl⟩ := h; exact astep_geq ho hx hy
  · rename_i s r hx hy
    cases op <;> simp only [Option.some.injEq, Prod.mk.injEq, reduceCtorEq] at h
    case eql => obtain ⟨rfl, rfl⟩ := h; exact astep_eqls ho hx hy
    case neq => obtain ⟨rfl, rfl⟩ := h; exact astep_neqs ho hx hy
    case add => obtain ⟨rfl, rfl⟩ := h; exact astep_adds ho hx hy hc
  · rename_i p q hx hy
    split at h
    · rename_i hk
      cases op <;> simp only [Option.some.injEq, Prod.mk.injEq, reduceCtorEq] at h
      case eql => obtain ⟨rfl, rfl⟩ := h; exact astep_eqlb (kindAt_bool ht hk) ho hx hy
      case neq => obtain ⟨rfl, rfl⟩ := h; exact astep_neqb (kindAt_bool ht hk) ho hx hy
    · cases h
  · rename_i n es hx hy
    cases op <;> simp only [reduceCtorEq] at h
    case eql =>
      split at h
      · rename_i e hk; cases h; exact astep_nil_eq (elemOf_spec ht hk).1 ho hx hy
      · cases h
  · rename_i hx hy
    cases op <;> simp only [reduceCtorEq] at h
    case eql =>
      split at h
      · rename_i e hk
        cases h
        exact .two ho hx hy fun w => by
          have := Lib.run_eql_slice_nil (P := P) w t _ none 0 0 0 0 (elemOf_spec ht hk).1
          simp [eqGuard, this]
      · cases h
  · cases h
theorem ev_sound (h : ev tab ρ o.op = some (out, c)) (hc : c) : AStep P o M ρ M out := by
  unfold ev at h
  split at h
  · rename_i x ho
    obtain ⟨y, h1, h2⟩ := Option.map_eq_some_iff.1 h
    cases h2
    rw [← nf_eq h1]
    exact astep_move ho
  · rename_i x ho
    obtain ⟨y, h1, h2⟩ := Option.map_eq_some_iff.1 h
    cases h2
    rw [← nf_eq h1]
    exact astep_assign ho
  · rename_i op t x y u ho
    exact evBin_sound ht ho h hc
  · rename_i t x ho
    split at h
    · rename_i b hx
      cases h
      exact astep_not ho hx
    · rename_i p q hx
      cases h
      exact .value fun S B β a w _ hs => by
        have h1 := hs x (by simp [ho, Op.operands])
        rw [hx] at h1
        obtain ⟨b, h2, h3, h4⟩ := h1
        exact ⟨.bool (!b), by simp [execOp, ho, h2, Op.unary], !b, rfl, fun h => h4 (by simpa using h), fun h => h3 (by simpa using h)⟩
    · cases h
  · rename_i t x ho
    split at h
    · rename_i k n hx
      cases h
      have := astep_neg (P := P) (M := M) ho hx
      rw [Int.zero_sub, rng_wrap hc] at this
      exact this
    · cases h
  · rename_i x t ho
    split at h
    · rename_i s hx
      split at h
      · rename_i hk; cases h; exact astep_len_s ht ho hk hx
      · cases h
    · rename_i k es hx
      split at h
      · rename_i e hk; cases h; exact astep_len ht ho hk hx
      · cases h
    · rename_i hx
      split at h
      · rename_i e hk; cases h; exact astep_len_nil ht ho hk hx
      · cases h
    · cases h
  · rename_i x y ts ho
    split at h
    · rename_i k a q b hx hy; cases h; exact astep_min ho hx hy
    · cases h
  · rename_i x y ts ho
    split at h
    · rename_i k a q b hx hy; cases h; exact astep_max ho hx hy
    · cases h
  · rename_i T x i ho
    split at h
    · rename_i l hx
      split at h
      · rename_i off fe hf
        obtain ⟨y, h1, h2⟩ := Option.map_eq_some_iff.1 h
        cases h2
        exact astep_field ht ho hf hx (ldAV_eq h1)
      · cases h
    · cases h
  · rename_i T x i ho
    split at h
    · rename_i off fe hf
      split at h
      · rename_i j o' hx; cases h; exact astep_fieldAddr ht ho hf (by rw [hx]; rfl) (by rw [hx]; intros; simp)
      · rename_i l hx; cases h; exact astep_fieldAddr ht ho hf (by rw [hx]; rfl) (by rw [hx]; intros; simp)
      · cases h
    · cases h
  · rename_i T x ho
    split at h
    · rename_i l hx
      split at h
      · rename_i te hT
        obtain ⟨y, h1, h2⟩ := Option.map_eq_some_iff.1 h
        cases h2
        exact astep_load_d ht ho hT hx (ldAV_eq h1)
      · cases h
    · cases h
  · rename_i x n ho
    split at h
    · rename_i l hx
      split at h
      · rename_i y hl
        obtain ⟨z, h1, h2⟩ := Option.map_eq_some_iff.1 h
        cases h2
        rw [← nf_eq h1]
        exact astep_extract ho hx hl
      · cases h
    · cases h
  · rename_i T U x ho
    split at h
    · rename_i q n hx
      split at h
      · rename_i tk k hT hU
        cases h
        have := astep_conv_int (P := P) (M := M) ht ho hT hU hx
        rwa [rng_wrap hc] at this
      · cases h
    · cases h
  · rename_i T x y ho
    split at h
    · rename_i s q n hx hy
      split at h
      · rename_i hk
        cases h
        refine astep_index_s ht ho hk hx hy hc.1 ?_
        have hlt : n.toNat < s.data.toList.length := by have := hc.2; simp; omega
        rw [List.getElem?_eq_getElem hlt, List.getD_eq_getElem?_getD, List.getElem?_eq_getElem hlt]
        rfl
      · cases h
    · cases h
  · cases h
end

end Go.Proofs.Ytajbbcnfohbieaa
