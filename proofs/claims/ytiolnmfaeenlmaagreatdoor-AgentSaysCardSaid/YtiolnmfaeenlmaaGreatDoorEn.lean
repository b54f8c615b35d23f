import Derived.Test.YtiolnmfaeenlmaaGreatDoorEj
/- The engine, part 11: plain operations by reckoning; the rules as walks use them. -/
namespace Go.Proofs.YtiolnmfaeenlmaaGreatDoor
open Go Go.RowKit

/-- What a number must be to be of a kind. -/
@[reducible] def rng : IntKind → Int → Prop
  | .i8, n => -128 ≤ n ∧ n ≤ 127
  | .i16, n => -32768 ≤ n ∧ n ≤ 32767
  | .i32, n => -2147483648 ≤ n ∧ n ≤ 2147483647
  | .i64, n => -9223372036854775808 ≤ n ∧ n ≤ 9223372036854775807
  | .u8, n => 0 ≤ n ∧ n ≤ 255
  | .u16, n => 0 ≤ n ∧ n ≤ 65535
  | .u32, n => 0 ≤ n ∧ n ≤ 4294967295
  | .u64, n => 0 ≤ n ∧ n ≤ 18446744073709551615
theorem rng_wrap {k : IntKind} {n : Int} (h : rng k n) : k.wrap n = n := by
  cases k <;> simp only [rng] at h <;> simp [IntKind.wrap, IntKind.bits, IntKind.signed] <;> omega
def kEq : IntKind → IntKind → Bool
  | .i8, .i8 | .i16, .i16 | .i32, .i32 | .i64, .i64 | .u8, .u8 | .u16, .u16 | .u32, .u32 | .u64, .u64 => true
  | _, _ => false
theorem kEq_eq {a b : IntKind} (h : kEq a b = true) : a = b := by cases a <;> cases b <;> first | rfl | cases h

def evInt (op : BinOp) (k : IntKind) (a b : Int) : Option (AV × Prop) :=
  match op with
  | .add => some (.val (.int k (a + b)), rng k (a + b))
  | .sub => some (.val (.int k (a - b)), rng k (a - b))
  | .mul => some (.val (.int k (a * b)), rng k (a * b))
  | .quo => some (.val (.int k (a / b)), 0 ≤ a ∧ 0 < b ∧ rng k (a / b))
  | .rem => some (.val (.int k (a % b)), 0 ≤ a ∧ 0 < b)
  | .eql => some (.val (.bool (decide (a = b))), True)
  | .neq => some (.val (.bool (!decide (a = b))), True)
  | .lss => some (.val (.bool (decide (a < b))), True)
  | .leq => some (.val (.bool (decide (a ≤ b))), True)
  | .gtr => some (.val (.bool (decide (b < a))), True)
  | .geq => some (.val (.bool (decide (b ≤ a))), True)
  | _ => none
def evBin (tab : List (Nat × TE)) (op : BinOp) (t : Nat) (x y : AV) : Option (AV × Prop) :=
  match x, y with
  | .val (.int k a), .val (.int k' b) => bif kEq k k' then evInt op k a b else none
  | .val (.string s), .val (.string r) => match op with
    | .eql => some (.val (.bool (decide (s = r))), True)
    | .neq => some (.val (.bool (!decide (s = r))), True)
    | .add => some (.val (.string (s ++ r)), s.size + r.size ≤ 9223372036854775807)
    | _ => none
  | .val (.bool p), .val (.bool q) => match kindAt tab t with
    | some .bool => match op with
      | .eql => some (.val (.bool (p == q)), True)
      | .neq => some (.val (.bool (!(p == q))), True)
      | _ => none
    | _ => none
  | .sl _ es, .val (.slice none 0 0) => match op with
    | .eql => match elemOf_ tab t with
      | some _ => some (.ub es.isEmpty true, True)
      | none => none
    | _ => none
  | .val (.slice none 0 0), .val (.slice none 0 0) => match op with
    | .eql => match elemOf_ tab t with
      | some _ => some (.val (.bool true), True)
      | none => none
    | _ => none
  | _, _ => none
/-- A thing known, its head laid open. -/
def nf : AV → Option AV
  | .any => some .any
  | .val v => some (.val v)
  | .sl k es => some (.sl k es)
  | .ptr i o => some (.ptr i o)
  | .row i v => some (.row i v)
  | .eptr i v j o => some (.eptr i v j o)
  | .dptr l => some (.dptr l)
  | .agg l => some (.agg l)
  | .tup l => some (.tup l)
  | .cnd c x => some (.cnd c x)
  | .cl f c => some (.cl f c)
  | .ub p q => some (.ub p q)
  | .alt x y => some (.alt x y)
  | .pr p => some (.pr p)
  | .vw i v p => some (.vw i v p)
theorem nf_eq {x y : AV} (h : nf x = some y) : x = y := by cases x <;> cases h <;> rfl
def isAgg1 : AV → Bool
  | .agg _ => true
  | _ => false
/-- What is read, its head laid open. -/
def ldAV (te : TE) (l : List AV) : Option AV := match loadAV te l with
  | some x => nf x
  | none => none
theorem ldAV_eq {te : TE} {l : List AV} {x : AV} (h : ldAV te l = some x) : loadAV te l = some x := by
  unfold ldAV at h
  split at h
  · rename_i y hy; rw [hy, nf_eq h]
  · cases h

def ev (tab : List (Nat × TE)) (ρ : Operand → AV) : Op → Option (AV × Prop)
  | .move x => (nf (ρ x)).map fun y => (y, True)
  | .assign x => (nf (ρ x)).map fun y => (y, True)
  | .binOp op t x y _ => evBin tab op t (ρ x) (ρ y)
  | .unOp .not _ x => match ρ x with
    | .val (.bool b) => some (.val (.bool (!b)), True)
    | .ub p q => some (.ub q p, True)
    | _ => none
  | .unOp .neg _ x => match ρ x with
    | .val (.int k n) => some (.val (.int k (-n)), rng k (-n))
    | _ => none
  | .call { callee := .builtin .len, args := ⟨[x]⟩, argTypes := ⟨[t]⟩ } => match ρ x with
    | .val (.string s) => match kindAt tab t with
      | some .str => some (.val (.int .i64 s.size), True)
      | _ => none
    | .sl _ es => match elemOf_ tab t with
      | some _ => some (.val (.int .i64 es.length), True)
      | none => none
    | .val (.slice none 0 0) => match elemOf_ tab t with
      | some _ => some (.val (.int .i64 0), True)
      | none => none
    | _ => none
  | .call { callee := .builtin .min, args := ⟨[x, y]⟩, .. } => match ρ x, ρ y with
    | .val (.int k a), .val (.int _ b) => some (.val (.int k (min a b)), True)
    | _, _ => none
  | .call { callee := .builtin .max, args := ⟨[x, y]⟩, .. } => match ρ x, ρ y with
    | .val (.int k a), .val (.int _ b) => some (.val (.int k (max a b)), True)
    | _, _ => none
  | .field T x i => match ρ x with
    | .agg l => match fieldOf tab T i with
      | some (off, fe) => (ldAV fe (l.drop off)).map fun y => (y, True)
      | none => none
    | _ => none
  | .fieldAddr T x i => match fieldOf tab T i with
    | some (off, _) => match ρ x with
      | .ptr j o => some (.ptr j (o + off), True)
      | .dptr l => some (.dptr (l.drop off), True)
      | _ => none
    | none => none
  | .load T x => match ρ x with
    | .dptr l => match tget tab T with
      | some te => (ldAV te l).map fun y => (y, True)
      | none => none
    | _ => none
  | .extract x n => match ρ x with
    | .tup l => match l[n]? with
      | some y => (nf y).map fun y => (y, True)
      | none => none
    | _ => none
  | .convert T U x => match ρ x with
    | .val (.int _ n) => match kindAt tab T, kindAt tab U with
      | some _, some (.int k) => some (.val (.int k n), rng k n)
      | _, _ => none
    | _ => none
  | .index T x y => match ρ x, ρ y with
    | .val (.string s), .val (.int _ n) => match kindAt tab T with
      | some .str => some (.val (.int .u8 (s.data.toList.getD n.toNat 0).toNat), 0 ≤ n ∧ n < (s.size : Int))
      | _ => none
    | _, _ => none
  | _ => none

section
variable {P : Program} {tab : List (Nat × TE)} (ht : TyTab P tab) {o : Oper} {M : List AB} {ρ : Operand → AV} {out : AV} {c : Prop}
include ht
theorem evBin_sound {op : BinOp} {t u : TypeId} {x y : Operand} (ho : o.op = .binOp op t x y u) (h : evBin tab op t (ρ x) (ρ y) = some (out, c)) (hc : c) : AStep P o M ρ M out := by
  unfold evBin at h
  split at h
  · rename_i k a k' b hx hy
    cases hk : kEq k k' with
    | false => rw [hk] at h; cases h
    | true =>
      rw [hk] at h
      cases kEq_eq hk
      simp only [cond_true] at h
      unfold evInt at h
      cases op <;> simp only [Option.some.injEq, Prod.mk.injEq, reduceCtorEq] at h
      case add => obtain ⟨rfl, rfl⟩ := h; have := astep_add (P := P) (M := M) ho hx hy; rwa [rng_wrap hc] at this
      case sub => obtain ⟨rfl, rfl⟩ := h; have := astep_sub (P := P) (M := M) ho hx hy; rwa [rng_wrap hc] at this
      case mul => obtain ⟨rfl, rfl⟩ := h; have := astep_mul (P := P) (M := M) ho hx hy; rwa [rng_wrap hc] at this
      case quo =>
        obtain ⟨rfl, rfl⟩ := h
        have := astep_quo (P := P) (M := M) ho hx hy (by omega)
        rw [Int.tdiv_eq_ediv_of_nonneg hc.1, rng_wrap hc.2.2] at this
        exact this
      case rem => obtain ⟨rfl, rfl⟩ := h; exact astep_rem_pos ho hx hy hc.1 hc.2
      case eql => obtain ⟨rfl, rfl⟩ := h; exact astep_eql ho hx hy
      case neq => obtain ⟨rfl, rfl⟩ := h; exact astep_neq ho hx hy
      case lss => obtain ⟨rfl, rfl⟩ := h; exact astep_lss ho hx hy
      case leq => obtain ⟨rfl, rfl⟩ := h; exact astep_leq ho hx hy
      case gtr => obtain ⟨rfl, rfl⟩ := h; exact astep_gtr ho hx hy
      case geq => obtain ⟨rfl, rfl⟩ := h; exact astep_geq ho hx hy
  · rename_i s r hx hy
    cases op <;> simp only [Option.some.injEq, Prod.mk.injEq, reduceCtorEq] at h
    case eql => obtain ⟨rfl, rfl⟩ := h; exact astep_eqls ho hx hy
    case neq => obtain ⟨rfl, rfl⟩ := h; exact astep_neqs ho hx hy
    case add => obtain ⟨rfl, rfl⟩ := h; exact astep_adds ho hx hy hc
  · rename_i p q hx hy
    split at h
    · rename_i hk
      cases op <;> simp only [Option.some.injEq, Prod.mk.injEq, reduceCtorEq] at h
      case eql => obtain ⟨rfl, rfl⟩ := h; exact astep_eqlb (kindAt_bool ht hk) ho hx hy
      case neq => obtain ⟨rfl, rfl⟩ := h; exact astep_neqb (kindAt_bool ht hk) ho hx hy
    · cases h
  · rename_i n es hx hy
    cases op <;> simp only [reduceCtorEq] at h
    case eql =>
      split at h
      · rename_i e hk; cases h; exact astep_nil_eq (elemOf_spec ht hk).1 ho hx hy
      · cases h
  · rename_i hx hy
    cases op <;> simp only [reduceCtorEq] at h
    case eql =>
      split at h
      · rename_i e hk
        cases h
        exact .two ho hx hy fun w => by
          have := Lib.run_eql_slice_nil (P := P) w t _ none 0 0 0 0 (elemOf_spec ht hk).1
          simp [eqGuard, this]
      · cases h
  · cases h
theorem ev_sound (h : ev tab ρ o.op = some (out, c)) (hc : c) : AStep P o M ρ M out := by
  unfold ev at h
  split at h
  · rename_i x ho
    obtain ⟨y, h1, h2⟩ := Option.map_eq_some_iff.1 h
    cases h2
    rw [← nf_eq h1]
    exact astep_move ho
  · rename_i x ho
    obtain ⟨y, h1, h2⟩ := Option.map_eq_some_iff.1 h
    cases h2
    rw [← nf_eq h1]
    exact astep_assign ho
  · rename_i op t x y u ho
    exact evBin_sound ht ho h hc
  · rename_i t x ho
    split at h
    · rename_i b hx
      cases h
      exact astep_not ho hx
    · rename_i p q hx
      cases h
      exact .value fun S B β a w _ hs => by
        have h1 := hs x (by simp [ho, Op.operands])
        rw [hx] at h1
        obtain ⟨b, h2, h3, h4⟩ := h1
        exact ⟨.bool (!b), by simp [execOp, ho, h2, Op.unary], !b, rfl, fun h => h4 (by simpa using h), fun h => h3 (by simpa using h)⟩
    · cases h
  · rename_i t x ho
    split at h
    · rename_i k n hx
      cases h
      have := astep_neg (P := P) (M := M) ho hx
      rw [Int.zero_sub, rng_wrap hc] at this
      exact this
    · cases h
  · rename_i x t ho
    split at h
    · rename_i s hx
      split at h
      · rename_i hk; cases h; exact astep_len_s ht ho hk hx
      · cases h
    · rename_i k es hx
      split at h
      · rename_i e hk; cases h; exact astep_len ht ho hk hx
      · cases h
    · rename_i hx
      split at h
      · rename_i e hk; cases h; exact astep_len_nil ht ho hk hx
      · cases h
    · cases h
  · rename_i x y ts ho
    split at h
    · rename_i k a q b hx hy; cases h; exact astep_min ho hx hy
    · cases h
  · rename_i x y ts ho
    split at h
    · rename_i k a q b hx hy; cases h; exact astep_max ho hx hy
    · cases h
  · rename_i T x i ho
    split at h
    · rename_i l hx
      split at h
      · rename_i off fe hf
        obtain ⟨y, h1, h2⟩ := Option.map_eq_some_iff.1 h
        cases h2
        exact astep_field ht ho hf hx (ldAV_eq h1)
      · cases h
    · cases h
  · rename_i T x i ho
    split at h
    · rename_i off fe hf
      split at h
      · rename_i j o' hx; cases h; exact astep_fieldAddr ht ho hf (by rw [hx]; rfl) (by rw [hx]; intros; simp)
      · rename_i l hx; cases h; exact astep_fieldAddr ht ho hf (by rw [hx]; rfl) (by rw [hx]; intros; simp)
      · cases h
    · cases h
  · rename_i T x ho
    split at h
    · rename_i l hx
      split at h
      · rename_i te hT
        obtain ⟨y, h1, h2⟩ := Option.map_eq_some_iff.1 h
        cases h2
        exact astep_load_d ht ho hT hx (ldAV_eq h1)
      · cases h
    · cases h
  · rename_i x n ho
    split at h
    · rename_i l hx
      split at h
      · rename_i y hl
        obtain ⟨z, h1, h2⟩ := Option.map_eq_some_iff.1 h
        cases h2
        rw [← nf_eq h1]
        exact astep_extract ho hx hl
      · cases h
    · cases h
  · rename_i T U x ho
    split at h
    · rename_i q n hx
      split at h
      · rename_i tk k hT hU
        cases h
        have := astep_conv_int (P := P) (M := M) ht ho hT hU hx
        rwa [rng_wrap hc] at this
      · cases h
    · cases h
  · rename_i T x y ho
    split at h
    · rename_i s q n hx hy
      split at h
      · rename_i hk
        cases h
        refine astep_index_s ht ho hk hx hy hc.1 ?_
        have hlt : n.toNat < s.data.toList.length := by have := hc.2; simp; omega
        rw [List.getElem?_eq_getElem hlt, List.getD_eq_getElem?_getD, List.getElem?_eq_getElem hlt]
        rfl
      · cases h
    · cases h
  · cases h
end

end Go.Proofs.YtiolnmfaeenlmaaGreatDoor

/- The engine, part 12: the rules as walks use them. -/
namespace Go.Proofs.YtiolnmfaeenlmaaGreatDoor
open Go Go.RowKit

section
variable {P : Program} {ops : Array Oper} {N : Nat} {K : AS → Prop} {o : Oper} {r : List Oper} {fo fo' : Option (List Nat)} {M M' : List AB} {F : List (Nat × AV)} {dt : Tmp} {tab : List (Nat × TE)} {out : AV} {c : Prop}

/-- A run whose kinds are given, or are anyhow. -/
def RunX (P : Program) (ops : Array Oper) (N : Nat) (K : AS → Prop) (l : List Oper) : Option (List Nat) → List AB → List (Nat × AV) → Prop
  | none, M, F => ∃ fl, Run P ops N K l fl ⟨M, F⟩
  | some fl, M, F => Run P ops N K l fl ⟨M, F⟩
def popF : Option (List Nat) → Nat → Option (Option (List Nat))
  | none, _ => some none
  | some [], _ => none
  | some (k' :: fl), k => bif Nat.beq k k' || (Nat.ble k k' && Nat.blt k' 3) then some (some fl) else none
theorem StepK.up {o : Oper} {M M' : List AB} {G : Nat → AV} {x : AV} {a b : Nat} (hab : a = b ∨ (a ≤ b ∧ b < 3)) (h : StepK P ops a o M G M' x) : StepK P ops b o M G M' x := by
  rcases hab with rfl | ⟨hab, hb⟩
  · exact h
  match a, b with
  | 0, 0 => exact h
  | 0, 1 => exact ⟨h.1, by have := h.2 M; obtain ⟨rfl, _⟩ := h; exact this⟩
  | 0, 2 => obtain ⟨rfl, h⟩ := h; exact h _
  | 1, 0 => omega
  | 1, 1 => exact h
  | 1, 2 => obtain ⟨rfl, h⟩ := h; exact h
  | 2, 0 => omega
  | 2, 1 => omega
  | 2, 2 => exact h
  | _, b + 3 => omega
  | a + 3, 0 => omega
  | a + 3, 1 => omega
  | a + 3, 2 => omega
theorem RunX.mk {k : Nat} {M' : List AB} {F' : List (Nat × AV)} (h : ∀ fl, Run P ops N K r fl ⟨M', F'⟩ → Run P ops N K (o :: r) (k :: fl) ⟨M, F⟩) (hp : popF fo k = some fo') (hk : RunX P ops N K r fo' M' F') : RunX P ops N K (o :: r) fo M F := by
  cases fo with
  | none =>
    cases hp
    obtain ⟨fl, hk⟩ := hk
    exact ⟨k :: fl, h fl hk⟩
  | some l =>
    cases l with
    | nil => cases hp
    | cons k' fl =>
      simp only [popF] at hp
      cases hb : (Nat.beq k k' || (Nat.ble k k' && Nat.blt k' 3)) with
      | false => rw [hb] at hp; cases hp
      | true =>
        rw [hb] at hp
        cases hp
        obtain ⟨k0, fl0, M1, x, e1, e2, e3, e4⟩ := h fl hk
        cases e1
        exact ⟨k', fl, M1, x, rfl, e2, e3.up (by simp only [Bool.or_eq_true, Bool.and_eq_true, Nat.beq_eq, Nat.ble_eq, Nat.blt_eq] at hb; exact hb), e4⟩
theorem r_done (h : K ⟨M, F⟩) : RunX P ops N K [] none M F := ⟨[], rfl, h⟩
theorem r_done' (h : K ⟨M, F⟩) : RunX P ops N K [] (some []) M F := ⟨rfl, h⟩
theorem put_eq {x : AV} (h : o.dst = some dt) : putF F o.dst x = (dt, x) :: F := by rw [h]; rfl
theorem put_none {x : AV} (h : o.dst = none) : putF F o.dst x = F := by rw [h]; rfl

theorem r_ev (ht : TyTab P tab) (hg : o.guard = none) (he : ev tab (aval (look F)) o.op = some (out, c)) (hdd : o.dst = some dt) (hd : dstB o.dst N = true) (hc : c) (hp : popF fo 0 = some fo') (k : RunX P ops N K r fo' (M) ((dt, out) :: F)) : RunX P ops N K (o :: r) fo M F :=
  RunX.mk (fun _ k => Run.pure_ hd (fun _ => StepG.plain hg (ev_sound ht he hc)) (by rw [put_eq hdd]; exact k)) hp k
theorem r_ev_on (ht : TyTab P tab) {j : Nat} {want : Bool} {g : Tmp} (hg : o.guard = some (j, want)) (hj : dstOf ops j = some g) (hF : look F g = .val (.bool want)) (he : ev tab (aval (look F)) o.op = some (out, c)) (hdd : o.dst = some dt) (hd : dstB o.dst N = true) (hc : c)
    (hp : popF fo 0 = some fo') (k : RunX P ops N K r fo' (M) ((dt, out) :: F)) : RunX P ops N K (o :: r) fo M F :=
  RunX.mk (fun _ k => Run.pure_ hd (fun _ => StepG.on hg hj hF (ev_sound ht he hc)) (by rw [put_eq hdd]; exact k)) hp k
theorem r_off {j : Nat} {want : Bool} {g : Tmp} (hg : o.guard = some (j, want)) (hj : dstOf ops j = some g) (hF : look F g = .val (.bool (!want))) (hdd : o.dst = some dt) (hd : dstB o.dst N = true)
    (hp : popF fo 0 = some fo') (k : RunX P ops N K r fo' (M) ((dt, (.val undef)) :: F)) : RunX P ops N K (o :: r) fo M F :=
  RunX.mk (fun _ k => Run.pure_ hd (fun _ => StepG.off hg hj hF) (by rw [put_eq hdd]; exact k)) hp k
theorem r_ev_cnd (ht : TyTab P tab) {j : Nat} {want c0 : Bool} {g : Tmp} (hg : o.guard = some (j, want)) (hj : dstOf ops j = some g) (hF : guardOf want (look F g) = some c0)
    (he : ev tab (aval fun t => strip (look F t)) o.op = some (out, c)) (hdd : o.dst = some dt) (hd : dstB o.dst N = true) (hcs : c0 = true → condsOf (look F) o.op.operands.toList = true) (hc : c0 = true → c)
    (hp : popF fo 0 = some fo') (k : RunX P ops N K r fo' (M) ((dt, (.cnd c0 out)) :: F)) : RunX P ops N K (o :: r) fo M F :=
  RunX.mk (fun _ k => Run.pure_ hd (fun _ => StepG.cnd hg hj hF hcs fun h => ev_sound ht he (hc h)) (by rw [put_eq hdd]; exact k)) hp k

theorem cs1 {c : Bool} (h : c = true) : (c && true) = true := by rw [h]; rfl
theorem cs2 {c : Bool} (h : c = true) : (c && (c && true)) = true := by rw [h]; rfl
theorem cs3 {c : Bool} (h : c = true) : (c && (c && (c && true))) = true := by rw [h]; rfl
theorem r_id (h : RunX P ops N K (o :: r) fo M F) : RunX P ops N K (o :: r) fo M F := h
/-- A choice of two. -/
theorem r_or {q x y : Operand} {b d : Bool} (hg : o.guard = none) (ho : o.op = .pick q x y) (hq : aval (look F) q = .val (.bool b)) (hx : aval (look F) x = .val (.bool true)) (hy : aval (look F) y = .cnd (b == false) (.val (.bool d)))
    (hdd : o.dst = some dt) (hd : dstB o.dst N = true) (hp : popF fo 0 = some fo') (k : RunX P ops N K r fo' (M) ((dt, (.val (.bool (b || d)))) :: F)) : RunX P ops N K (o :: r) fo M F :=
  RunX.mk (fun _ k => Run.pure_ hd (fun _ => StepG.plain hg (astep_or ho hq hx hy)) (by rw [put_eq hdd]; exact k)) hp k
theorem r_and {q x y : Operand} {b d : Bool} (hg : o.guard = none) (ho : o.op = .pick q x y) (hq : aval (look F) q = .val (.bool b)) (hx : aval (look F) x = .cnd (b == true) (.val (.bool d))) (hy : aval (look F) y = .val (.bool false))
    (hdd : o.dst = some dt) (hd : dstB o.dst N = true) (hp : popF fo 0 = some fo') (k : RunX P ops N K r fo' (M) ((dt, (.val (.bool (b && d)))) :: F)) : RunX P ops N K (o :: r) fo M F :=
  RunX.mk (fun _ k => Run.pure_ hd (fun _ => StepG.plain hg (astep_and ho hq hx hy)) (by rw [put_eq hdd]; exact k)) hp k
theorem r_pick_t {q x y : Operand} (hg : o.guard = none) (ho : o.op = .pick q x y) (hq : aval (look F) q = .val (.bool true)) (hx : nf (aval (look F) x) = some out)
    (hdd : o.dst = some dt) (hd : dstB o.dst N = true) (hp : popF fo 0 = some fo') (k : RunX P ops N K r fo' (M) ((dt, out) :: F)) : RunX P ops N K (o :: r) fo M F :=
  RunX.mk (fun _ k => Run.pure_ hd (fun _ => StepG.plain hg (astep_pick ho hq (fun _ => by rw [nf_eq hx]; exact Sub.refl _) (fun h => by cases h))) (by rw [put_eq hdd]; exact k)) hp k
theorem r_pick_f {q x y : Operand} (hg : o.guard = none) (ho : o.op = .pick q x y) (hq : aval (look F) q = .val (.bool false)) (hx : nf (aval (look F) y) = some out)
    (hdd : o.dst = some dt) (hd : dstB o.dst N = true) (hp : popF fo 0 = some fo') (k : RunX P ops N K r fo' (M) ((dt, out) :: F)) : RunX P ops N K (o :: r) fo M F :=
  RunX.mk (fun _ k => Run.pure_ hd (fun _ => StepG.plain hg (astep_pick ho hq (fun h => by cases h) (fun _ => by rw [nf_eq hx]; exact Sub.refl _))) (by rw [put_eq hdd]; exact k)) hp k

/-- Own memory read. -/
def ldM (tab : List (Nat × TE)) (M : List AB) (ρ : Operand → AV) : Op → Option AV
  | .load T x => match ρ x with
    | .ptr i off => match M[i]? with
      | some (.box _ cells) => match tget tab T with
        | some te => ldAV te (cells.drop off)
        | none => none
      | _ => none
    | _ => none
  | .call { callee := .builtin .len, args := ⟨[x]⟩, argTypes := ⟨[t]⟩ } => match ρ x with
    | .row i ver => match M[i]? with
      | some (.row ver' _ _ es) => bif Nat.beq ver' ver then (match elemOf_ tab t with
        | some _ => some (.val (.int .i64 es.length))
        | none => none) else none
      | _ => none
    | _ => none
  | _ => none
theorem ldM_sound (ht : TyTab P tab) {M : List AB} {ρ : Operand → AV} (h : ldM tab M ρ o.op = some out) : AStep P o M ρ M out := by
  unfold ldM at h
  split at h
  · rename_i T x ho
    split at h
    · rename_i i off hx
      split at h
      · rename_i e cells hM
        split at h
        · rename_i te hT; exact astep_load ht ho hT hx hM (ldAV_eq h)
        · cases h
      · cases h
    · cases h
  · rename_i x t ho
    split at h
    · rename_i i ver hx
      split at h
      · rename_i ver' e k es hM
        cases hv : Nat.beq ver' ver with
        | false => rw [hv] at h; cases h
        | true =>
          rw [hv] at h
          simp only [cond_true] at h
          split at h
          · rename_i ee hk
            cases h
            rw [Nat.eq_of_beq_eq_true hv] at hM
            exact astep_len_row ht ho hk hx hM
          · cases h
      · cases h
    · cases h
  · cases h
theorem r_ld (ht : TyTab P tab) (hg : o.guard = none) (he : ldM tab M (aval (look F)) o.op = some out) (hdd : o.dst = some dt) (hd : dstB o.dst N = true) (hp : popF fo 1 = some fo') (k : RunX P ops N K r fo' (M) ((dt, out) :: F)) : RunX P ops N K (o :: r) fo M F :=
  RunX.mk (fun _ k => Run.quiet hd (StepG.plain hg (ldM_sound ht he)) (by rw [put_eq hdd]; exact k)) hp k
theorem r_ld_on (ht : TyTab P tab) {j : Nat} {want : Bool} {g : Tmp} (hg : o.guard = some (j, want)) (hj : dstOf ops j = some g) (hF : look F g = .val (.bool want)) (he : ldM tab M (aval (look F)) o.op = some out) (hdd : o.dst = some dt) (hd : dstB o.dst N = true)
    (hp : popF fo 1 = some fo') (k : RunX P ops N K r fo' (M) ((dt, out) :: F)) : RunX P ops N K (o :: r) fo M F :=
  RunX.mk (fun _ k => Run.quiet hd (StepG.on hg hj hF (ldM_sound ht he)) (by rw [put_eq hdd]; exact k)) hp k
theorem r_ld_cnd (ht : TyTab P tab) {j : Nat} {want c0 : Bool} {g : Tmp} (hg : o.guard = some (j, want)) (hj : dstOf ops j = some g) (hF : guardOf want (look F g) = some c0)
    (he : ldM tab M (aval fun t => strip (look F t)) o.op = some out) (hdd : o.dst = some dt) (hd : dstB o.dst N = true) (hcs : c0 = true → condsOf (look F) o.op.operands.toList = true)
    (hp : popF fo 1 = some fo') (k : RunX P ops N K r fo' (M) ((dt, (.cnd c0 out)) :: F)) : RunX P ops N K (o :: r) fo M F :=
  RunX.mk (fun _ k => Run.quiet hd (StepG.cnd hg hj hF hcs fun _ => ldM_sound ht he) (by rw [put_eq hdd]; exact k)) hp k

/-- New own blocks; writes. -/
def nfs : List AV → Option (List AV)
  | [] => some []
  | x :: r => match nf x, nfs r with
    | some y, some ys => some (y :: ys)
    | _, _ => none
theorem nfs_eq : ∀ {l m : List AV}, nfs l = some m → l = m
  | [], _, h => by cases h; rfl
  | x :: r, m, h => by
    simp only [nfs] at h
    split at h
    · rename_i y ys h1 h2
      cases h
      rw [nf_eq h1, nfs_eq h2]
    · cases h
def wrM (tab : List (Nat × TE)) (M : List AB) (ρ : Operand → AV) : Op → Option (List AB × AV)
  | .box T x => bif oneCsM M (cellsOf (ρ x)) then (nfs (cellsOf (ρ x))).map fun l => (M ++ [.box T l], .ptr M.length 0) else none
  | .alloc T => match tget tab T with
    | some te => some (M ++ [.box T (te.zero.map .val)], .ptr M.length 0)
    | none => none
  | .store T x y => match ρ x with
    | .ptr i off => match M[i]? with
      | some (.box e cells) => match tget tab T with
        | some te => bif oneCsM M (cellsOf (ρ y)) && Nat.beq (cellsOf (ρ y)).length te.size && Nat.ble (off + te.size) cells.length then
            (nfs (putCells cells off (cellsOf (ρ y)))).map fun l => (M.set i (.box e l), .val undef) else none
        | none => none
      | _ => none
    | _ => none
  | _ => none
theorem wrM_sound (ht : TyTab P tab) {M M' : List AB} {ρ : Operand → AV} (h : wrM tab M ρ o.op = some (M', out)) : AStep P o M ρ M' out := by
  unfold wrM at h
  split at h
  · rename_i T x ho
    cases hx : oneCsM M (cellsOf (ρ x)) with
    | false => rw [hx] at h; cases h
    | true =>
      rw [hx] at h
      obtain ⟨l, h1, h2⟩ := Option.map_eq_some_iff.1 h
      cases h2
      rw [← nfs_eq h1]
      exact astep_box ho hx
  · rename_i T ho
    split at h
    · rename_i te hT; cases h; exact astep_alloc ht ho hT
    · cases h
  · rename_i T x y ho
    split at h
    · rename_i i off hx
      split at h
      · rename_i e cells hM
        split at h
        · rename_i te hT
          cases hb : (oneCsM M (cellsOf (ρ y)) && Nat.beq (cellsOf (ρ y)).length te.size && Nat.ble (off + te.size) cells.length) with
          | false => rw [hb] at h; cases h
          | true =>
            rw [hb] at h
            simp only [Bool.and_eq_true] at hb
            obtain ⟨l, h1, h2⟩ := Option.map_eq_some_iff.1 h
            cases h2
            rw [← nfs_eq h1]
            exact astep_store ht ho hT hx hM hb.1.1 (Nat.eq_of_beq_eq_true hb.1.2) hb.2
        · cases h
      · cases h
    · cases h
  · cases h
/-- A list of own memory, laid open. -/
def nfM : List AB → List AB
  | [] => []
  | x :: r => x :: nfM r
theorem r_st (ht : TyTab P tab) {M' : List AB} (hg : o.guard = none) (he : wrM tab M (aval (look F)) o.op = some (M', out)) (hdd : o.dst = none) (hp : popF fo 2 = some fo') (k : RunX P ops N K r fo' M' F) : RunX P ops N K (o :: r) fo M F :=
  RunX.mk (fun _ k => Run.eff (by rw [hdd]; rfl) (StepG.plain hg (wrM_sound ht he)) (by rw [put_none hdd]; exact k)) hp k
theorem r_wr (ht : TyTab P tab) {M' : List AB} (hg : o.guard = none) (he : wrM tab M (aval (look F)) o.op = some (M', out)) (hdd : o.dst = some dt) (hd : dstB o.dst N = true) (hp : popF fo 2 = some fo') (k : RunX P ops N K r fo' (M') ((dt, out) :: F)) : RunX P ops N K (o :: r) fo M F :=
  RunX.mk (fun _ k => Run.eff hd (StepG.plain hg (wrM_sound ht he)) (by rw [put_eq hdd]; exact k)) hp k

/-- Slices that are written out, read, appended to. -/
theorem r_built (ht : TyTab P tab) {T n e : Nat} {ee : TE} {parts : Array (Nat × Operand)} {ds : List D} (hg : o.guard = none) (ho : o.op = .buildSlice T n parts) (hT : elemOf_ tab T = some (e, ee))
    (hok : (Nat.blt 0 ee.size && Nat.beq ee.zero.length ee.size && Nat.beq (partsOf parts).length n && Nat.ble (n * ee.size) 16777216 && inOrder parts.toList 0) = true)
    (hds : toDall ((partsOf parts).map (aval (look F))) = some ds) (hf : fitK ee.size ((partsOf parts).map (aval (look F))) ds = true)
    (hdd : o.dst = some dt) (hd : dstB o.dst N = true) (hp : popF fo 1 = some fo') (k : RunX P ops N K r fo' (M) ((dt, (.sl ee.size ds)) :: F)) : RunX P ops N K (o :: r) fo M F :=
  RunX.mk (fun _ k => Run.quiet hd (StepG.plain hg (astep_buildSlice ht ho hT hok hds hf)) (by rw [put_eq hdd]; exact k)) hp k
theorem r_built_row (ht : TyTab P tab) {T n e : Nat} {ee : TE} {parts : Array (Nat × Operand)} {ds : List D} (hg : o.guard = none) (ho : o.op = .buildSlice T n parts) (hT : elemOf_ tab T = some (e, ee))
    (hok : (Nat.blt 0 ee.size && Nat.beq ee.zero.length ee.size && Nat.beq (partsOf parts).length n && Nat.ble (n * ee.size) 16777216 && inOrder parts.toList 0) = true)
    (hds : toDall ((partsOf parts).map (aval (look F))) = some ds) (hf : fitK ee.size ((partsOf parts).map (aval (look F))) ds = true)
    (hdd : o.dst = some dt) (hd : dstB o.dst N = true) (hp : popF fo 2 = some fo') (k : RunX P ops N K r fo' (M ++ [.row 0 e ee.size ds]) ((dt, (.row M.length 0)) :: F)) : RunX P ops N K (o :: r) fo M F :=
  RunX.mk (fun _ k => Run.eff hd (StepG.plain hg (astep_buildRow ht ho hT hok hds hf)) (by rw [put_eq hdd]; exact k)) hp k
theorem r_built0 (ht : TyTab P tab) {T e : Nat} {ee : TE} (hg : o.guard = none) (ho : o.op = .buildSlice T 0 #[]) (hT : elemOf_ tab T = some (e, ee))
    (hok : (Nat.blt 0 ee.size && Nat.beq ee.zero.length ee.size) = true)
    (hdd : o.dst = some dt) (hd : dstB o.dst N = true) (hp : popF fo 2 = some fo') (k : RunX P ops N K r fo' (M ++ [.row 0 e ee.size []]) ((dt, .row M.length 0) :: F)) : RunX P ops N K (o :: r) fo M F := by
  rw [Bool.and_eq_true] at hok
  refine r_built_row ht hg ho hT (ds := []) ?_ rfl rfl hdd hd hp k
  rw [hok.1, hok.2]
  simp [partsOf, inOrder]
theorem r_append (ht : TyTab P tab) {T e : Nat} {ee : TE} {x y : Operand} {i ver : Nat} {es xs : List D} (hg : o.guard = none) (ho : o.op = .call { callee := .builtin .append, args := #[x, y], argTypes := #[T, T] }) (hT : elemOf_ tab T = some (e, ee))
    (hok : (Nat.blt 0 ee.size && Nat.beq ee.zero.length ee.size && Nat.blt 0 ee.bytes) = true) (hx : aval (look F) x = .row i ver) (hM : M[i]? = some (.row ver e ee.size es)) (hy : aval (look F) y = .sl ee.size xs)
    (hdd : o.dst = some dt) (hd : dstB o.dst N = true) (hb : (es.length + xs.length) * ee.bytes ≤ 140737488355328) (hp : popF fo 2 = some fo') (k : RunX P ops N K r fo' (M.set i (.row (ver + 2) e ee.size (es ++ xs))) ((dt, (.row i (ver + 2))) :: F)) : RunX P ops N K (o :: r) fo M F :=
  RunX.mk (fun _ k => Run.eff hd (StepG.plain hg (astep_append ht ho hT hok hx hM hy hb)) (by rw [put_eq hdd]; exact k)) hp k
/-- An element of a slice that is data, of typed elements. -/
theorem map_get {α : Type} {f : α → D} {l : List α} {n : Nat} (h : n < l.length) : (l.map f)[n]? = some (f l[n]) := by simp [h]
theorem r_idx (ht : TyTab P tab) {α : Type} {f : α → D} {l : List α} {T e : Nat} {ee : TE} {x y : Operand} {q : IntKind} {n : Int} {cs : List AV} (hg : o.guard = none) (ho : o.op = .indexAddr T x y) (hT : elemOf_ tab T = some (e, ee))
    (hx : aval (look F) x = .sl ee.size (l.map f)) (hy : aval (look F) y = .val (.int q n)) (hdd : o.dst = some dt) (hd : dstB o.dst N = true) (hn : 0 ≤ n ∧ n.toNat < l.length) (hcs : nfs (f (l[n.toNat]'hn.2)).cells = some cs)
    (hp : popF fo 0 = some fo') (k : RunX P ops N K r fo' (M) ((dt, (.dptr cs)) :: F)) : RunX P ops N K (o :: r) fo M F :=
  RunX.mk (fun _ k => Run.pure_ (out := .dptr cs) hd (fun _ => StepG.plain hg (by rw [← nfs_eq hcs]; exact astep_idx ht ho hT hx hy hn.1 (map_get hn.2))) (by rw [put_eq hdd]; exact k)) hp k

/-- The length of a slice of typed elements. -/
theorem astep_len_map (ht : TyTab P tab) {α : Type} {f : α → D} {l : List α} {ρ : Operand → AV} {T e n : Nat} {ee : TE} {x : Operand} (ho : o.op = .call { callee := .builtin .len, args := #[x], argTypes := #[T] }) (hT : elemOf_ tab T = some (e, ee)) (hx : ρ x = .sl n (l.map f)) :
    AStep P o M ρ M (.val (.int .i64 l.length)) := by
  have := astep_len (P := P) (M := M) ht ho hT hx
  rwa [List.length_map] at this
theorem r_len (ht : TyTab P tab) {α : Type} {f : α → D} {l : List α} {T e n : Nat} {ee : TE} {x : Operand} (hg : o.guard = none) (ho : o.op = .call { callee := .builtin .len, args := #[x], argTypes := #[T] }) (hT : elemOf_ tab T = some (e, ee)) (hx : aval (look F) x = .sl n (l.map f))
    (hdd : o.dst = some dt) (hd : dstB o.dst N = true) (hp : popF fo 0 = some fo') (k : RunX P ops N K r fo' M ((dt, .val (.int .i64 l.length)) :: F)) : RunX P ops N K (o :: r) fo M F :=
  RunX.mk (fun _ k => Run.pure_ hd (fun _ => StepG.plain hg (astep_len_map ht ho hT hx)) (by rw [put_eq hdd]; exact k)) hp k
theorem r_len_on (ht : TyTab P tab) {α : Type} {f : α → D} {l : List α} {T e n : Nat} {ee : TE} {x : Operand} {j : Nat} {want : Bool} {g : Tmp} (hg : o.guard = some (j, want)) (hj : dstOf ops j = some g) (hF : look F g = .val (.bool want)) (ho : o.op = .call { callee := .builtin .len, args := #[x], argTypes := #[T] }) (hT : elemOf_ tab T = some (e, ee)) (hx : aval (look F) x = .sl n (l.map f))
    (hdd : o.dst = some dt) (hd : dstB o.dst N = true) (hp : popF fo 0 = some fo') (k : RunX P ops N K r fo' M ((dt, .val (.int .i64 l.length)) :: F)) : RunX P ops N K (o :: r) fo M F :=
  RunX.mk (fun _ k => Run.pure_ hd (fun _ => StepG.on hg hj hF (astep_len_map ht ho hT hx)) (by rw [put_eq hdd]; exact k)) hp k
theorem r_len_cnd (ht : TyTab P tab) {α : Type} {f : α → D} {l : List α} {T e n : Nat} {ee : TE} {x : Operand} {j : Nat} {want c0 : Bool} {g : Tmp} (hg : o.guard = some (j, want)) (hj : dstOf ops j = some g) (hF : guardOf want (look F g) = some c0) (ho : o.op = .call { callee := .builtin .len, args := #[x], argTypes := #[T] }) (hT : elemOf_ tab T = some (e, ee))
    (hx : aval (fun t => strip (look F t)) x = .sl n (l.map f)) (hcs : c0 = true → condsOf (look F) o.op.operands.toList = true)
    (hdd : o.dst = some dt) (hd : dstB o.dst N = true) (hp : popF fo 0 = some fo') (k : RunX P ops N K r fo' M ((dt, .cnd c0 (.val (.int .i64 l.length))) :: F)) : RunX P ops N K (o :: r) fo M F :=
  RunX.mk (fun _ k => Run.pure_ hd (fun _ => StepG.cnd hg hj hF hcs fun _ => astep_len_map ht ho hT hx) (by rw [put_eq hdd]; exact k)) hp k

/-- A remainder, a quotient of whatever sign. -/
theorem r_rem {t u : TypeId} {x y : Operand} {k : IntKind} {a b : Int} (hg : o.guard = none) (ho : o.op = .binOp .rem t x y u) (hx : aval (look F) x = .val (.int k a)) (hy : aval (look F) y = .val (.int k b)) (hdd : o.dst = some dt) (hd : dstB o.dst N = true) (hb : b ≠ 0)
    (hp : popF fo 0 = some fo') (k : RunX P ops N K r fo' M ((dt, .val (.int k (a.tmod b))) :: F)) : RunX P ops N K (o :: r) fo M F :=
  RunX.mk (fun _ k => Run.pure_ hd (fun _ => StepG.plain hg (astep_rem ho hx hy hb)) (by rw [put_eq hdd]; exact k)) hp k

/-- A call by contract. -/
theorem r_call {f : FuncId} {xs : Array Operand} {ts : Array TypeId} {cargs : List AV} {res : AV} (hc : PCalls P f cargs res) (hcall : Callable P f) (hg : o.guard = none) (ho : o.op = .call { callee := .value (.func f), args := xs, argTypes := ts })
    (hargs : Subs (xs.toList.map (aval (look F))) cargs) (hfr : (AV.frees cargs && res.free) = true) (hdd : o.dst = some dt) (hd : dstB o.dst N = true) (hp : popF fo 1 = some fo') (k : RunX P ops N K r fo' (M) ((dt, res) :: F)) : RunX P ops N K (o :: r) fo M F := by
  rw [Bool.and_eq_true] at hfr
  exact RunX.mk (fun _ k => Run.quiet hd (StepG.plain hg (astep_call ho hcall hc hargs hfr.1 hfr.2)) (by rw [put_eq hdd]; exact k)) hp k
theorem r_call_cnd {j : Nat} {want c0 : Bool} {g : Tmp} {f : FuncId} {xs : Array Operand} {ts : Array TypeId} {cargs : List AV} {res : AV} (hc : c0 = true → PCalls P f cargs res) (hcall : Callable P f) (hg : o.guard = some (j, want)) (hj : dstOf ops j = some g)
    (hF : guardOf want (look F g) = some c0) (ho : o.op = .call { callee := .value (.func f), args := xs, argTypes := ts }) (hcs : c0 = true → condsOf (look F) o.op.operands.toList = true)
    (hargs : Subs (xs.toList.map (aval fun t => strip (look F t))) cargs) (hfr : (AV.frees cargs && res.free) = true) (hdd : o.dst = some dt) (hd : dstB o.dst N = true) (hp : popF fo 1 = some fo') (k : RunX P ops N K r fo' (M) ((dt, (.cnd c0 res)) :: F)) : RunX P ops N K (o :: r) fo M F := by
  rw [Bool.and_eq_true] at hfr
  exact RunX.mk (fun _ k => Run.quiet hd (StepG.cnd hg hj hF hcs fun h => astep_call ho hcall (hc h) hargs hfr.1 hfr.2) (by rw [put_eq hdd]; exact k)) hp k
end

section
variable {cx : Cx} {s : AS} {Q : Exit → AS → Prop}
theorem a_region {P : Program} {N : Nat} {S : Nat → Prop} {w0 : World} {M0 M : List AB} {β0 : Env} {L : Option Nat} {F : List (Nat × AV)} {id : Nat} {l : List Oper} (h : RunX P l.toArray N (fun s' => Q .normal s') l none M F) : AWp ⟨P, N, S, w0, M0, β0, L⟩ (.region id l.toArray false) ⟨M, F⟩ Q := by
  obtain ⟨fl, h⟩ := h
  exact awp_region h
theorem a_draw {P : Program} {N : Nat} {S : Nat → Prop} {w0 : World} {M0 M : List AB} {β0 : Env} {L : Option Nat} {F : List (Nat × AV)} {id : Nat} {l : List Oper} (hm : P.follows .mixedOrders = true) (fl : List Nat) (hok : ordOK l.toArray fl (ancs l []) = true) (h : RunX P l.toArray N (fun s' => Q .normal s') l (some fl) M F) : AWp ⟨P, N, S, w0, M0, β0, L⟩ (.region id l.toArray true) ⟨M, F⟩ Q :=
  awp_region_draw hm h hok
theorem a_draw1 {P : Program} {N : Nat} {S : Nat → Prop} {w0 : World} {M0 M : List AB} {β0 : Env} {L : Option Nat} {F : List (Nat × AV)} {id : Nat} {l : List Oper} (hm : P.follows .mixedOrders = true) (hok : ordOK l.toArray (List.replicate l.length 1) (ancs l []) = true)
    (h : RunX P l.toArray N (fun s' => Q .normal s') l (some (List.replicate l.length 1)) M F) : AWp ⟨P, N, S, w0, M0, β0, L⟩ (.region id l.toArray true) ⟨M, F⟩ Q := a_draw hm _ hok h
theorem thenA_exit {K : AS → Prop} {id : Nat} (h : Q (.exit id) s) : thenA K Q (.exit id) s := h
theorem thenA_ret {K : AS → Prop} (h : Q .ret s) : thenA K Q .ret s := h
theorem blockA_normal {id : Nat} (h : Q .normal s) : blockA id Q .normal s := h
theorem blockA_ret {id : Nat} (h : Q .ret s) : blockA id Q .ret s := h
theorem blockA_hit {id id' : Nat} (hb : Nat.beq id' id = true) (h : Q .normal s) : blockA id Q (.exit id') s := by simp only [blockA, hb, cond_true]; exact h
theorem blockA_miss {id id' : Nat} (hb : Nat.beq id' id = false) (h : Q (.exit id') s) : blockA id Q (.exit id') s := by simp only [blockA, hb, cond_false]; exact h
theorem a_loop {σ : Type} {c : Code} (IM : σ → List AB) (IF : σ → List (Nat × AV)) (μ : σ → Nat) (x0 : σ) (h0 : Fits cx s ⟨IM x0, IF x0⟩)
    (round : ∀ x, AWp cx c ⟨IM x, IF x⟩ (thenA (fun s' => ∃ y, μ y < μ x ∧ Fits cx s' ⟨IM y, IF y⟩) Q)) : AWp cx (.loop c) s Q := awp_loop (fun x => ⟨IM x, IF x⟩) μ x0 h0 round
theorem awp_cond_t {c : Operand} {x y : Code} (hc : aval (look s.F) c = .val (.bool true)) (h : AWp cx x s Q) : AWp cx (.cond c x y) s Q := awp_cond hc (fun _ => h) (fun h => by cases h)
theorem awp_cond_f {c : Operand} {x y : Code} (hc : aval (look s.F) c = .val (.bool false)) (h : AWp cx y s Q) : AWp cx (.cond c x y) s Q := awp_cond hc (fun h => by cases h) (fun _ => h)
theorem awp_cond_p {c : Operand} {x y : Code} {p : Prop} [Decidable p] (hc : aval (look s.F) c = .val (.bool (decide p))) (ht : p → AWp cx x s Q) (hf : ¬ p → AWp cx y s Q) : AWp cx (.cond c x y) s Q :=
  awp_cond hc (fun h => ht (of_decide_eq_true h)) (fun h => hf (of_decide_eq_false h))
theorem awp_cond_n {c : Operand} {x y : Code} {p : Prop} [Decidable p] (hc : aval (look s.F) c = .val (.bool (!decide p))) (ht : ¬ p → AWp cx x s Q) (hf : p → AWp cx y s Q) : AWp cx (.cond c x y) s Q :=
  awp_cond hc (fun h => ht (by simpa using h)) (fun h => hf (by simpa using h))

theorem awp_cond_u {c : Operand} {x y : Code} {p q : Bool} (hc : aval (look s.F) c = .ub p q) (ht : p = true → AWp cx x s Q) (hf : q = true → AWp cx y s Q) : AWp cx (.cond c x y) s Q := by
  intro a w hs
  obtain ⟨h1, h2, β, h3, h4, h5⟩ := hs
  have hv := aval_sat (F := look s.F) h5 c
  rw [hc] at hv
  obtain ⟨b, hb, k1, k2⟩ := hv
  exact wpIn_cond_split hb (fun h => ht (k1 h) a w ⟨h1, h2, β, h3, h4, h5⟩) (fun h => hf (k2 h) a w ⟨h1, h2, β, h3, h4, h5⟩)
/-- Only these slots are remembered, and so written. -/
def keeps (F : List (Nat × AV)) : List (Nat × AV) → Prop
  | [] => True
  | (d, x) :: r => Sub (look F d) x ∧ keeps F r
theorem fits_of {M M' : List AB} {F F' : List (Nat × AV)} (hM : M = M') (hF : keeps F F') : Fits cx ⟨M, F⟩ ⟨M', F'⟩ := by
  subst hM
  rintro a w ⟨h1, h2, β, h3, h4, h5⟩
  refine ⟨h1, h2, β, h3, h4, fun d => ?_⟩
  have key : ∀ F' : List (Nat × AV), keeps F F' → AVsat M β w (immOf cx.S cx.w0.heap.size M β w) (look F' d) (a.tmps.getD d undef) := by
    intro F'
    induction F' with
    | nil => exact fun _ => trivial
    | cons p r ih =>
      obtain ⟨e, x⟩ := p
      rintro ⟨k1, k2⟩
      cases hb : Nat.beq e d with
      | true =>
        simp only [look, hb, cond_true]
        have := Nat.eq_of_beq_eq_true hb
        subst this
        exact k1 _ _ _ _ _ (h5 e)
      | false =>
        simp only [look, hb, cond_false]
        exact ih k2
  exact key F' hF
theorem Fits.refl (s : AS) : Fits cx s s := fun _ _ h => h
def nfF : List (Nat × AV) → Option (List (Nat × AV))
  | [] => some []
  | (d, x) :: r => match nf x, nfF r with
    | some y, some ys => some ((d, y) :: ys)
    | _, _ => none
theorem nfF_eq : ∀ {l m : List (Nat × AV)}, nfF l = some m → l = m
  | [], _, h => by cases h; rfl
  | (d, x) :: r, m, h => by
    simp only [nfF] at h
    split at h
    · rename_i y ys h1 h2
      cases h
      rw [nf_eq h1, nfF_eq h2]
    · cases h
/-- The start of a walk. -/
theorem p_start {P : Program} {f : FuncId} {fn : Func} {c : Code} {args : List AV} {res : AV} {N : Nat} {F : List (Nat × AV)} (hf : P.funcs[f]? = some fn) (hN : fn.ntmps = N) (hb : fn.body = some c) (hF : nfF (argF 0 args) = some F) (hok : Nat.ble args.length N = true)
    (h : ∀ S w, AWp ⟨P, N, S, w, [], noE, none⟩ c ⟨[], F⟩ (retQ P fn res)) : PCalls P f args res := pcalls_of hf hN hb (nfF_eq hF) hok h
theorem Sub.of_eq {x y : AV} (h : x = y) : Sub x y := by subst h; exact Sub.refl x
theorem ret1 {P : Program} {fn : Func} {res x : AV} {e : Exit} {M : List AB} {F : List (Nat × AV)} {t : Tmp} (he : e = .normal ∨ e = .ret) (hr : fn.results.toList = [.tmp t]) (hx : nf (look F t) = some x) (hf : x.free = true) (h : Sub x res) : retQ P fn res e ⟨M, F⟩ :=
  ⟨he, [x], by rw [hr]; exact .cons (.tmp (by rw [nf_eq hx]; exact Sub.refl _) hf) .nil, h⟩
theorem ret1_row {P : Program} {fn : Func} {res : AV} {e : Exit} {M : List AB} {F : List (Nat × AV)} {t : Tmp} {i ver E k : Nat} {es : List D} (he : e = .normal ∨ e = .ret) (hr : fn.results.toList = [.tmp t]) (hx : look F t = .row i ver) (hM : M[i]? = some (.row ver E k es)) (h : Sub (.sl k es) res) : retQ P fn res e ⟨M, F⟩ :=
  ⟨he, [.sl k es], by rw [hr]; exact .cons (.row hx hM) .nil, h⟩
theorem ret2 {P : Program} {fn : Func} {r1 r2 x y : AV} {e : Exit} {M : List AB} {F : List (Nat × AV)} {t u : Tmp} (he : e = .normal ∨ e = .ret) (hr : fn.results.toList = [.tmp t, .tmp u]) (hx : nf (look F t) = some x) (hy : nf (look F u) = some y)
    (hf : (x.free && y.free) = true) (h : Sub x r1) (k : Sub y r2) : retQ P fn (.tup [r1, r2]) e ⟨M, F⟩ := by
  rw [Bool.and_eq_true] at hf
  refine ⟨he, [x, y], by rw [hr]; exact .cons (.tmp (by rw [nf_eq hx]; exact Sub.refl _) hf.1) (.cons (.tmp (by rw [nf_eq hy]; exact Sub.refl _) hf.2) .nil), ?_⟩
  rintro M β w imm v ⟨cs, h1, ⟨v1, r, e1, s1, v2, r', e2, s2, s3⟩⟩
  exact ⟨cs, h1, v1, r, e1, h _ _ _ _ _ s1, v2, r', e2, k _ _ _ _ _ s2, s3⟩
end

end Go.Proofs.YtiolnmfaeenlmaaGreatDoor

/- The engine, part 13: struct literals; rows in boxes; taking up and letting go; bytes to strings; guarded calls. -/
namespace Go.Proofs.YtiolnmfaeenlmaaGreatDoor
open Go Go.RowKit

def placesOf (tab : List (Nat × TE)) : List (Nat × Nat) → Option (List (Nat × Nat))
  | [] => some []
  | (off, t) :: r => match tget tab t, placesOf tab r with
    | some e, some ps => some ((off, e.size) :: ps)
    | _, _ => none
theorem placesOf_spec {P : Program} {tab : List (Nat × TE)} (ht : TyTab P tab) : ∀ {fs : List Field} {ps : List (Nat × Nat)}, placesOf tab (fs.map fun f => (f.offset, f.type)) = some ps →
    fs.mapM (fun f => (P.info? f.type).map fun i => (f.offset, i.size)) = some ps
  | [], ps, h => by cases h; rfl
  | f :: fs, ps, h => by
    simp only [List.map_cons, placesOf] at h
    split at h
    · rename_i e ps' he hps
      cases h
      obtain ⟨d, i, z, _, _, hi, hs, _⟩ := teOf_spec (ht.get he)
      simp [List.mapM_cons, hi, hs, placesOf_spec ht hps]
    · cases h

/-- Parts put into cells, one behind the other. -/
def fillAV (place : Nat → Option (Nat × Nat)) (cells : List AV) : List (Nat × AV) → Option (List AV)
  | [] => some cells
  | (i, x) :: r => match place i with
    | some (off, size) => bif Nat.beq (cellsOf x).length size && Nat.ble (off + size) cells.length && oneCs (cellsOf x) then fillAV place (putCells cells off (cellsOf x)) r else none
    | none => none
theorem foldl_put {cs : Array Value} {l : List Value} {off : Nat} (h : off + l.length ≤ cs.size) :
    ((l.zipIdx 0).foldl (fun cs (x : Value × Nat) => cs.setIfInBounds (off + x.2) x.1) cs).toList = cs.toList.take off ++ l ++ cs.toList.drop (off + l.length) := by
  obtain ⟨h1, h2⟩ := Go.Great.foldl_set off l 0 cs
  apply List.ext_getElem?
  intro k
  rw [Array.getElem?_toList, h2 k]
  simp only [Nat.add_zero]
  have hl1 : (cs.toList.take off).length = off := by rw [List.length_take, Array.length_toList]; omega
  have hl2 : (cs.toList.take off ++ l).length = off + l.length := by rw [List.length_append, hl1]
  by_cases hk : off ≤ k ∧ k < off + l.length ∧ k < cs.size
  · rw [if_pos hk, List.append_assoc, List.getElem?_append_right (by rw [hl1]; exact hk.1), hl1, List.getElem?_append_left (by omega)]
  · rw [if_neg hk]
    rcases Nat.lt_or_ge k off with hlt | hge
    · rw [List.append_assoc, List.getElem?_append_left (by rw [hl1]; exact hlt), List.getElem?_take, if_pos hlt]
      simp
    · rcases Nat.lt_or_ge k (off + l.length) with hlt' | hge'
      · exact absurd ⟨hge, hlt', by omega⟩ hk
      · rw [List.getElem?_append_right (by rw [hl2]; exact hge'), List.getElem?_drop, hl2]
        rw [show off + l.length + (k - (off + l.length)) = k by omega]
        simp
theorem fillAV_sat {M : List AB} {β : Env} {w : World} {imm : Nat → Prop} {place : Nat → Option (Nat × Nat)} : ∀ {ps : List (Nat × AV)} {vs : List (Nat × Value)} {cells out : List AV} {cs : Array Value}, fillAV place cells ps = some out →
    ps.map (·.1) = vs.map (·.1) → AVsats M β w imm (ps.map (·.2)) (vs.map (·.2)) → AVsats M β w imm cells cs.toList → ∃ cs', Instr.fill place cs vs = some cs' ∧ AVsats M β w imm out cs'.toList
  | [], vs, cells, out, cs, h, h1, _, h3 => by
    cases h
    cases vs with
    | nil => exact ⟨cs, rfl, h3⟩
    | cons => simp at h1
  | (i, x) :: r, vs, cells, out, cs, h, h1, h2, h3 => by
    match vs, h1, h2 with
    | (j, v) :: vs, h1, ⟨_, _, e, h4, h5⟩ =>
      simp only [List.map_cons, List.cons.injEq] at h1 e
      obtain ⟨rfl, h1⟩ := h1
      obtain ⟨rfl, rfl⟩ := e
      simp only [fillAV] at h
      split at h
      · rename_i off size hp
        cases hb : (Nat.beq (cellsOf x).length size && Nat.ble (off + size) cells.length && oneCs (cellsOf x)) with
        | false => rw [hb] at h; cases h
        | true =>
          rw [hb] at h
          simp only [Bool.and_eq_true] at hb
          obtain ⟨⟨b1, b2⟩, b3⟩ := hb
          have b1 := Nat.eq_of_beq_eq_true b1
          have b2 := Nat.le_of_ble_eq_true b2
          obtain ⟨h6, _⟩ := cellsOf_sat b3 h4
          have l6 := h6.len
          have l3 := h3.len
          rw [Array.length_toList] at l6 l3
          have hput := putCells_sat (off := off) h3 h6
          have e := foldl_put (cs := cs) (l := v.cells.toList) (off := off) (by simp; omega)
          rw [← e] at hput
          obtain ⟨cs', h7, h8⟩ := fillAV_sat (cs := (v.cells.toList.zipIdx 0).foldl (fun cs (x : Value × Nat) => cs.setIfInBounds (off + x.2) x.1) cs) h h1 h5 hput
          refine ⟨cs', ?_, h8⟩
          unfold Instr.fill
          simp only [hp]
          rw [if_neg (by simp; omega)]
          rw [← h7]
          congr 1
          rw [← Array.foldl_toList, Array.toList_zipIdx]
      · cases h

def buildAV (tab : List (Nat × TE)) (T : Nat) (ps : List (Nat × AV)) : Option (List AV) :=
  match tget tab T with
  | some te => match te.kind with
    | .struct fs => match placesOf tab fs with
      | some pl => match fillAV (pl[·]?) (te.zero.map .val) ps with
        | some l => nfs l
        | none => none
      | none => none
    | .array _ e => match tget tab e with
      | some ee => match fillAV (fun i => some (i * ee.size, ee.size)) (te.zero.map .val) ps with
        | some l => nfs l
        | none => none
      | none => none
    | _ => none
  | none => none

section
variable {P : Program} {o : Oper} {M M' : List AB} {ρ : Operand → AV} {out : AV} {tab : List (Nat × TE)}
theorem vals_sat {β : Env} {w : World} {imm : Nat → Prop} : ∀ l : List Value, AVsats M β w imm (l.map .val) l
  | [] => rfl
  | a :: as => ⟨a, as, rfl, rfl, vals_sat as⟩
theorem buildAV_sound (ht : TyTab P tab) {β : Env} {w : World} {imm : Nat → Prop} {T : Nat} {ps : List (Nat × AV)} {vs : List (Nat × Value)} {l : List AV} (h : buildAV tab T ps = some l) (h1 : ps.map (·.1) = vs.map (·.1)) (h2 : AVsats M β w imm (ps.map (·.2)) (vs.map (·.2))) :
    ∃ cs, P.built T vs = some cs ∧ AVsats M β w imm l cs.toList := by
  unfold buildAV at h
  split at h
  · rename_i te hT
    obtain ⟨d, i, z, hd, hk, hi, _, _, hz, hc⟩ := teOf_spec (ht.get hT)
    have hzs : AVsats M β w imm (te.zero.map .val) z.cells.toList := by rw [hc]; exact vals_sat _
    split at h
    · rename_i fs hkk
      split at h
      · rename_i pl hpl
        split at h
        · rename_i l' hl
          rw [← nfs_eq h]
          obtain ⟨cs, h3, h4⟩ := fillAV_sat hl h1 h2 hzs
          refine ⟨cs, ?_, h4⟩
          rw [hkk] at hk
          cases d <;> simp [kindOf] at hk
          rename_i fields
          subst hk
          have := placesOf_spec ht hpl
          simp [Program.built, hi, hd, hz, this, h3]
        · cases h
      · cases h
    · rename_i n e hkk
      split at h
      · rename_i ee hee
        split at h
        · rename_i l' hl
          rw [← nfs_eq h]
          obtain ⟨cs, h3, h4⟩ := fillAV_sat hl h1 h2 hzs
          refine ⟨cs, ?_, h4⟩
          rw [hkk] at hk
          cases d <;> simp [kindOf] at hk
          obtain ⟨rfl, rfl⟩ := hk
          obtain ⟨d', i', z', _, _, hi', hs', _⟩ := teOf_spec (ht.get hee)
          simp [Program.built, hi, hd, hz, hi', hs', h3]
        · cases h
      · cases h
    · cases h
  · cases h
theorem mem_parts' {parts : Array (Nat × Operand)} {x : Operand} {T : Nat} (ho : o.op = .build T parts) (hx : x ∈ partsOf parts) : x ∈ o.op.operands := by
  rw [ho]
  simp only [Op.operands, List.mem_toArray]
  exact hx
def partsAV (ρ : Operand → AV) (parts : Array (Nat × Operand)) : List (Nat × AV) := parts.toList.map fun p => (p.1, ρ p.2)
theorem astep_build (ht : TyTab P tab) {T : Nat} {parts : Array (Nat × Operand)} {l : List AV} (ho : o.op = .build T parts) (hl : buildAV tab T (partsAV ρ parts) = some l) : AStep P o M ρ M (.agg l) :=
  .value fun S B β a w _ hs => by
    have h2 := map_sat (l := partsOf parts) fun x hx => hs x (mem_parts' ho hx)
    obtain ⟨cs, h3, h4⟩ := buildAV_sound (P := P) (vs := parts.toList.map fun p => (p.1, a.eval p.2)) ht hl (by simp [partsAV]) (by simpa [partsAV, partsOf, Function.comp_def] using h2)
    refine ⟨.agg cs, ?_, cs, rfl, h4⟩
    have := run_build (P := P) w T (parts.map fun (i, x) => (i, a.eval x)) cs (by simpa using h3)
    simp only [execOp, ho]
    simp only [Sem.run_bind, this]
    rfl

/-- Bytes that are written out, as a string. -/
def u8s : List D → Option (List Int)
  | [] => some []
  | .val (.int .u8 n) :: r => match u8s r with
    | some ns => some (n :: ns)
    | none => none
  | _ => none
def bytesStr (ns : List Int) : ByteArray := ⟨(ns.map fun n => UInt8.ofNat n.toNat).toArray⟩
theorem foldl_bytes (ns : List Int) (s : ByteArray) : ns.foldl (fun r n => r.push (UInt8.ofNat n.toNat)) s = ⟨s.data ++ (ns.map fun n => UInt8.ofNat n.toNat).toArray⟩ := by
  induction ns generalizing s with
  | nil => simp
  | cons n ns ih =>
    rw [List.foldl_cons, ih]
    apply ByteArray.ext
    simp [ByteArray.push]
theorem cells_u8 {w : World} {imm : Nat → Prop} : ∀ {ns : List Int} {cs : List Value}, DenCs w imm (ns.map fun n => D.val (.int .u8 n)) cs → cs = ns.map (Value.int .u8)
  | [], cs, h => h
  | n :: ns, cs, ⟨c1, c2, h1, h2, h3⟩ => by
    rw [h1, h2.1, cells_u8 h3]; rfl
theorem astep_bytes_str (ht : TyTab P tab) {T U e : Nat} {ee : TE} {x : Operand} {ns : List Int} (ho : o.op = .convert T U x) (hT : elemOf_ tab T = some (e, ee)) (he : kindAt tab e = some (.int .u8)) (hU : kindAt tab U = some .str)
    (hx : ρ x = .sl 1 (ns.map fun n => .val (.int .u8 n))) : AStep P o M ρ M (.val (.string (bytesStr ns))) :=
  .value fun S B β a w _ hs => by
    have h1 := hs x (by simp [ho, Op.operands])
    rw [hx] at h1
    obtain ⟨A, n, c, rows, s1, s2, s3, s4, s5, s6, s7⟩ := src_of h1
    have hcv := run_convert_bytes_string (P := P) w T U e A n c (elemOf_spec ht hT).1 (kindAt_int ht he) (kindAt_str ht hU)
    have hrows := cells_u8 s4
    rw [List.length_map] at s2
    cases A with
    | none =>
      have h0 : ns = [] := by
        refine List.eq_nil_of_length_eq_zero ?_
        rcases Nat.eq_zero_or_pos n with h | h
        · omega
        · obtain ⟨ad, h'⟩ := s6 h; cases h'
      subst h0
      refine ⟨_, ?_, rfl⟩
      simp only [execOp, ho, s1]
      simp only [Sem.run_bind, hcv]
      simp [Conv.bytesToString, bytesStr]
      rfl
    | some ad =>
      have hl := run_loadCells_list (P := P) (w := w) ad rows (s7 ad rfl)
      rw [s5, Nat.mul_one, hrows] at hl
      have hr := run_bytesToString (P := P) w ad n c ns hl
      refine ⟨_, ?_, rfl⟩
      simp only [execOp, ho, s1]
      simp only [Sem.run_bind, hcv, hr, foldl_bytes]
      simp [bytesStr]
end

section
variable {P : Program} {ops : Array Oper} {N : Nat} {K : AS → Prop} {o : Oper} {r : List Oper} {fo fo' : Option (List Nat)} {M M' : List AB} {F : List (Nat × AV)} {dt : Tmp} {tab : List (Nat × TE)} {out : AV}
theorem r_build (ht : TyTab P tab) {T : Nat} {parts : Array (Nat × Operand)} {l : List AV} (hg : o.guard = none) (ho : o.op = .build T parts) (hl : buildAV tab T (partsAV (aval (look F)) parts) = some l) (hdd : o.dst = some dt) (hd : dstB o.dst N = true)
    (hp : popF fo 0 = some fo') (k : RunX P ops N K r fo' M ((dt, .agg l) :: F)) : RunX P ops N K (o :: r) fo M F :=
  RunX.mk (fun _ k => Run.pure_ hd (fun _ => StepG.plain hg (astep_build ht ho hl)) (by rw [put_eq hdd]; exact k)) hp k
end

end Go.Proofs.YtiolnmfaeenlmaaGreatDoor

/- The engine, part 14: what is known, said otherwise: rows renumbered, let go, taken up out of nil. -/
namespace Go.Proofs.YtiolnmfaeenlmaaGreatDoor
open Go Go.RowKit

-- One thing known over M says another over M'.
mutual
def Conv (M M' : List AB) : AV → AV → Prop
  | _, .any => True
  | .agg l, .agg l' => Convs M M' l l'
  | .alt x y, .alt x' y' => (Conv M M' x x' ∧ Conv M M' y y') ∨ ((AV.alt x y).free = true ∧ Sub (.alt x y) (.alt x' y'))
  | x, y => (x.free = true ∧ Sub x y) ∨
      (∃ i off ab ab', x = .ptr i off ∧ y = .ptr i off ∧ M[i]? = some ab ∧ ab.isRow = false ∧ M'[i]? = some ab' ∧ ab'.isRow = false) ∨
      (∃ i ver ver' e k es es', x = .row i ver ∧ y = .row i ver' ∧ M[i]? = some (.row ver e k es) ∧ M'[i]? = some (.row ver' e k es') ∧ es = es') ∨
      (∃ i ver e k es es', x = .row i ver ∧ y = .sl k es' ∧ M[i]? = some (.row ver e k es) ∧ M'[i]? = some .gone ∧ es = es') ∨
      (∃ n e k, x = .val (.slice none 0 0) ∧ y = .row n 0 ∧ M'[n]? = some (.row 0 e k []) ∧ M.length ≤ n) ∨
      (∃ z i off ab ab', x = .ptr i off ∧ y = .alt z (.ptr i off) ∧ M[i]? = some ab ∧ ab.isRow = false ∧ M'[i]? = some ab' ∧ ab'.isRow = false) ∨
      (∃ i ver ver' e k pre mo c c', ((x = .row i ver ∧ y = .row i ver') ∨ ∃ j off, x = .eptr i ver j off ∧ y = .eptr i ver' j off) ∧ M[i]? = some (.rowo ver e k pre mo c) ∧ M'[i]? = some (.rowo ver' e k pre mo c'))
def Convs (M M' : List AB) : List AV → List AV → Prop
  | [], l' => l' = []
  | x :: l, l' => ∃ y r, l' = y :: r ∧ Conv M M' x y ∧ Convs M M' l r
end

def EntC (M M' : List AB) : AB → AB → Prop
  | _, .gone => True
  | .box e c, .box e' c' => e = e' ∧ Convs M M' c c'
  | .row v e k es, .row v' e' k' es' => sealed v' = sealed v ∧ e = e' ∧ k = k' ∧ es = es'
  | .iter s p, .iter s' p' => s = s' ∧ p = p'
  | .rowo _ e k pre mo cells, .rowo _ e' k' pre' mo' cells' => mo = mo' ∧ e = e' ∧ k = k' ∧ pre = pre' ∧ Convs M M' cells cells'
  | _, _ => False
def MemC (M M' : List AB) : List AB → List AB → Prop
  | [], [] => True
  | [], .row ver _ _ es :: r => ver = 0 ∧ es = [] ∧ MemC M M' [] r
  | x :: xs, y :: ys => EntC M M' x y ∧ MemC M M' xs ys
  | _, _ => False

section
variable {M M' : List AB} {β : Env} {w : World} {S : Nat → Prop} {B : Nat}
theorem MemC.old : ∀ {l l' : List AB} {i : Nat} {ab : AB}, MemC M M' l l' → l[i]? = some ab → ∃ ab', l'[i]? = some ab' ∧ EntC M M' ab ab'
  | [], _, _, _, _, h => by simp at h
  | x :: xs, y :: ys, 0, ab, h, hi => by cases hi; exact ⟨y, rfl, h.1⟩
  | x :: xs, y :: ys, i + 1, ab, h, hi => by
    obtain ⟨ab', h1, h2⟩ := MemC.old (l := xs) (l' := ys) (i := i) h.2 (by simpa using hi)
    exact ⟨ab', by simpa using h1, h2⟩
  | _ :: _, [], _, _, h, _ => h.elim
theorem MemC.new_ : ∀ {l l' : List AB} {i : Nat} {ab' : AB}, MemC M M' l l' → l.length ≤ i → l'[i]? = some ab' → ∃ e k, ab' = .row 0 e k []
  | [], [], _, _, _, _, h => by simp at h
  | [], .row ver e k es :: r, 0, ab', h, _, hi => by
    cases hi
    obtain ⟨rfl, rfl, _⟩ := h
    exact ⟨e, k, rfl⟩
  | [], .row ver e k es :: r, i + 1, ab', h, _, hi => MemC.new_ (l := []) (l' := r) (i := i) h.2.2 (Nat.zero_le _) (by simpa using hi)
  | [], .gone :: _, _, _, h, _, _ => h.elim
  | [], .box _ _ :: _, _, _, h, _, _ => h.elim
  | [], .iter _ _ :: _, _, _, h, _, _ => h.elim
  | [], .rowo _ _ _ _ _ _ :: _, _, _, h, _, _ => h.elim
  | x :: xs, y :: ys, 0, _, _, hl, _ => by simp at hl
  | x :: xs, y :: ys, i + 1, ab', h, hl, hi => MemC.new_ (l := xs) (l' := ys) (i := i) h.2 (by simpa using hl) (by simpa using hi)
  | _ :: _, [], _, _, h, _, _ => h.elim
theorem EntC.alive {x y : AB} (h : EntC M M' x y) (hy : y.alive = true) : x.alive = true ∧ y.isRow = x.isRow := by
  cases x <;> cases y <;> first | exact ⟨rfl, rfl⟩ | (exfalso; simp [EntC] at h; done) | (exfalso; simp [AB.alive] at hy; done)

/-- The names of the entries that are taken up out of nil stand for nothing. -/
def cutE (β : Env) (n : Nat) : Env := fun i => if i < n then β i else none

theorem conv_live (h : MemC M M' M M') {b : Nat} (hl : live M' (cutE β M.length) b) : live M β b := by
  obtain ⟨i, ab', c, h1, h2, h3⟩ := hl
  unfold cutE at h3
  split at h3
  · rename_i hlt
    have hi : M[i]? = some M[i] := List.getElem?_eq_getElem hlt
    obtain ⟨ab'', h4, h5⟩ := h.old hi
    rw [h1] at h4; cases h4
    exact ⟨i, _, c, hi, (h5.alive h2).1, h3⟩
  · cases h3
theorem conv_imm (h : MemC M M' M M') {b : Nat} (hb : immOf S B M β w b) : immOf S B M' (cutE β M.length) w b := ⟨hb.1, hb.2.1, fun hl => hb.2.2 (conv_live h hl)⟩

/-- A row that is let go reads as data. -/
theorem thaw_sl (hm : MemSat S B M β w) (h : MemC M M' M M') {i ver e k : Nat} {es : List D} (hM : M[i]? = some (.row ver e k es)) (hM' : M'[i]? = some .gone) {v : Value}
    (hv : AVsat M β w (immOf S B M β w) (.row i ver) v) : DenC w (immOf S B M' (cutE β M.length) w) (.sl k es) [v] := by
  obtain ⟨ab, h1, h2⟩ := hv
  rw [hM] at h1; cases h1
  have h3 := h2.2 rfl
  obtain ⟨hw, ⟨h4, rfl⟩ | ⟨g, cap, cs, h4, h5, h6, h7, h8, h9⟩⟩ := hm.ent i _ hM
  · rw [h4] at h3
    exact ⟨none, 0, 0, by rw [h3]; rfl, rfl, Nat.le_refl _, Nat.zero_le _, hw, fun h => absurd h (by omega)⟩
  · rw [h4] at h3
    refine ⟨some ⟨g, 0, none⟩, es.length, cap, by rw [h3]; rfl, rfl, h6, h7, hw, fun _ => ⟨g, 0, _, rfl, ?_, DenCs.mono (fun _ => conv_imm h) (fun _ _ _ => rfl) _ _ h9, fun j u hj => ?_⟩⟩
    · have hlt : i < M.length := (List.getElem?_eq_some_iff.1 hM).1
      refine ⟨hm.own g ⟨i, _, cap, hM, rfl, h4⟩, heap_lt h5.choose_spec.1, ?_⟩
      rintro ⟨j, ab', c, k1, k2, k3⟩
      unfold cutE at k3
      split at k3
      · rename_i hj
        have hjM : M[j]? = some M[j] := List.getElem?_eq_getElem hj
        obtain ⟨ab'', k4, k5⟩ := h.old hjM
        rw [k1] at k4; cases k4
        have := hm.inj j i _ _ g c cap hjM (k5.alive k2).1 k3 hM rfl h4
        subst this
        rw [hM'] at k1; cases k1; cases k2
      · cases k3
    · rw [List.getElem?_take] at hj
      split at hj
      · rw [Nat.zero_add, h5.cell]
        simpa using hj
      · cases hj
theorem Conv.sat1 (hm : MemSat S B M β w) (h : MemC M M' M M') (x y : AV) (v : Value)
    (hc : (x.free = true ∧ Sub x y) ∨
      (∃ i off ab ab', x = .ptr i off ∧ y = .ptr i off ∧ M[i]? = some ab ∧ ab.isRow = false ∧ M'[i]? = some ab' ∧ ab'.isRow = false) ∨
      (∃ i ver ver' e k es es', x = .row i ver ∧ y = .row i ver' ∧ M[i]? = some (.row ver e k es) ∧ M'[i]? = some (.row ver' e k es') ∧ es = es') ∨
      (∃ i ver e k es es', x = .row i ver ∧ y = .sl k es' ∧ M[i]? = some (.row ver e k es) ∧ M'[i]? = some .gone ∧ es = es') ∨
      (∃ n e k, x = .val (.slice none 0 0) ∧ y = .row n 0 ∧ M'[n]? = some (.row 0 e k []) ∧ M.length ≤ n) ∨
      (∃ z i off ab ab', x = .ptr i off ∧ y = .alt z (.ptr i off) ∧ M[i]? = some ab ∧ ab.isRow = false ∧ M'[i]? = some ab' ∧ ab'.isRow = false) ∨
      (∃ i ver ver' e k pre mo c c', ((x = .row i ver ∧ y = .row i ver') ∨ ∃ j off, x = .eptr i ver j off ∧ y = .eptr i ver' j off) ∧ M[i]? = some (.rowo ver e k pre mo c) ∧ M'[i]? = some (.rowo ver' e k pre mo c')))
    (hx : AVsat M β w (immOf S B M β w) x v) : AVsat M' (cutE β M.length) w (immOf S B M' (cutE β M.length) w) y v := by
  rcases hc with ⟨hf, hs⟩ | ⟨i, off, ab, ab', rfl, rfl, h1, h2, h3, h4⟩ | ⟨i, ver, ver', e, k, es, es', rfl, rfl, h1, h2, rfl⟩ | ⟨i, ver, e, k, es, es', rfl, rfl, h1, h2, rfl⟩ | ⟨n, e, k, rfl, rfl, h1, h2⟩ | ⟨z, i, off, ab, ab', rfl, rfl, h1, h2, h3, h4⟩ | ⟨i, ver, ver', e, k, pre, mo, c, c', hx', h1, h2⟩
  · exact hs _ _ _ _ _ (AVsat.free_ (fun _ => conv_imm h) (fun _ _ _ => rfl) _ _ hf hx)
  · obtain ⟨g, c, k1, k2, _⟩ := hx
    have hlt : i < M.length := (List.getElem?_eq_some_iff.1 h1).1
    exact ⟨g, c, by simp [cutE, hlt, k1], k2, ab', h3, h4⟩
  · have hlt : i < M.length := (List.getElem?_eq_some_iff.1 h1).1
    obtain ⟨k1, _⟩ := row_val hm h1 hx
    exact ⟨_, h2, Nat.le_refl _, fun _ => by simp [cutE, hlt, k1]⟩
  · exact thaw_sl hm h h1 h2 hx
  · have hx : v = .slice none 0 0 := hx
    exact ⟨_, h1, Nat.le_refl _, fun _ => by rw [hx]; simp [cutE, Nat.not_lt.2 h2, rowVal]⟩
  · obtain ⟨g, c, k1, k2, _⟩ := hx
    have hlt : i < M.length := (List.getElem?_eq_some_iff.1 h1).1
    exact .inr ⟨g, c, by simp [cutE, hlt, k1], k2, ab', h3, h4⟩
  · have hlt : i < M.length := (List.getElem?_eq_some_iff.1 h1).1
    rcases hx' with ⟨rfl, rfl⟩ | ⟨j, off, rfl, rfl⟩
    · obtain ⟨ab, k1, k2⟩ := hx
      rw [h1] at k1; cases k1
      exact ⟨_, h2, Nat.le_refl _, fun _ => by simp only [cutE, hlt, if_true]; exact k2.2 rfl⟩
    · obtain ⟨ab, k1, k2⟩ := hx
      rw [h1] at k1; cases k1
      exact ⟨_, h2, Nat.le_refl _, fun _ => by simp only [cutE, hlt, if_true]; exact k2.2 rfl⟩
mutual
theorem Conv.sat (hm : MemSat S B M β w) (h : MemC M M' M M') : ∀ (x y : AV) (v : Value), Conv M M' x y → AVsat M β w (immOf S B M β w) x v →
    AVsat M' (cutE β M.length) w (immOf S B M' (cutE β M.length) w) y v
  | .agg l, .agg l', v, hc, ⟨cs, h1, h2⟩ => ⟨cs, h1, Convs.sat hm h l l' _ hc h2⟩
  | .alt x y, .alt x' y', v, hc, hx => hc.elim (fun hc => hx.elim (fun h1 => .inl (Conv.sat hm h x x' v hc.1 h1)) (fun h1 => .inr (Conv.sat hm h y y' v hc.2 h1)))
      (fun hc => hc.2 _ _ _ _ _ (AVsat.free_ (fun _ => conv_imm h) (fun _ _ _ => rfl) _ _ hc.1 hx))
  | x, .any, _, _, _ => trivial
  | x, .val u, v, hc, hx => Conv.sat1 hm h x (.val u) v (by cases x <;> exact hc) hx
  | x, .sl a b, v, hc, hx => Conv.sat1 hm h x (.sl a b) v (by cases x <;> exact hc) hx
  | x, .ptr a b, v, hc, hx => Conv.sat1 hm h x (.ptr a b) v (by cases x <;> exact hc) hx
  | x, .row a b, v, hc, hx => Conv.sat1 hm h x (.row a b) v (by cases x <;> exact hc) hx
  | x, .eptr a b c d, v, hc, hx => Conv.sat1 hm h x (.eptr a b c d) v (by cases x <;> exact hc) hx
  | x, .dptr l, v, hc, hx => Conv.sat1 hm h x (.dptr l) v (by cases x <;> exact hc) hx
  | x, .tup l, v, hc, hx => Conv.sat1 hm h x (.tup l) v (by cases x <;> exact hc) hx
  | x, .cnd a b, v, hc, hx => Conv.sat1 hm h x (.cnd a b) v (by cases x <;> exact hc) hx
  | x, .cl a b, v, hc, hx => Conv.sat1 hm h x (.cl a b) v (by cases x <;> exact hc) hx
  | x, .ub a b, v, hc, hx => Conv.sat1 hm h x (.ub a b) v (by cases x <;> exact hc) hx
  | x, .pr a, v, hc, hx => Conv.sat1 hm h x (.pr a) v (by cases x <;> exact hc) hx
  | x, .vw a b c, v, hc, hx => Conv.sat1 hm h x (.vw a b c) v (by cases x <;> exact hc) hx
  | .vw a b c, .agg l, v, hc, hx => Conv.sat1 hm h (.vw a b c) (.agg l) v hc hx
  | .vw a b e, .alt c d, v, hc, hx => Conv.sat1 hm h (.vw a b e) (.alt c d) v hc hx
  | .pr a, .agg l, v, hc, hx => Conv.sat1 hm h (.pr a) (.agg l) v hc hx
  | .pr a, .alt c d, v, hc, hx => Conv.sat1 hm h (.pr a) (.alt c d) v hc hx
  | .alt a b, .agg l, v, hc, hx => Conv.sat1 hm h (.alt a b) (.agg l) v hc hx
  | .any, .alt c d, v, hc, hx => Conv.sat1 hm h (.any) (.alt c d) v hc hx
  | .val u, .alt c d, v, hc, hx => Conv.sat1 hm h (.val u) (.alt c d) v hc hx
  | .sl a b, .alt c d, v, hc, hx => Conv.sat1 hm h (.sl a b) (.alt c d) v hc hx
  | .ptr a b, .alt c d, v, hc, hx => Conv.sat1 hm h (.ptr a b) (.alt c d) v hc hx
  | .row a b, .alt c d, v, hc, hx => Conv.sat1 hm h (.row a b) (.alt c d) v hc hx
  | .eptr a b e f, .alt c d, v, hc, hx => Conv.sat1 hm h (.eptr a b e f) (.alt c d) v hc hx
  | .dptr l, .alt c d, v, hc, hx => Conv.sat1 hm h (.dptr l) (.alt c d) v hc hx
  | .agg l, .alt c d, v, hc, hx => Conv.sat1 hm h (.agg l) (.alt c d) v hc hx
  | .tup l, .alt c d, v, hc, hx => Conv.sat1 hm h (.tup l) (.alt c d) v hc hx
  | .cnd a b, .alt c d, v, hc, hx => Conv.sat1 hm h (.cnd a b) (.alt c d) v hc hx
  | .cl a b, .alt c d, v, hc, hx => Conv.sat1 hm h (.cl a b) (.alt c d) v hc hx
  | .ub a b, .alt c d, v, hc, hx => Conv.sat1 hm h (.ub a b) (.alt c d) v hc hx
  | .any, .agg l, v, hc, hx => Conv.sat1 hm h .any (.agg l) v hc hx
  | .val u, .agg l, v, hc, hx => Conv.sat1 hm h (.val u) (.agg l) v hc hx
  | .sl a b, .agg l, v, hc, hx => Conv.sat1 hm h (.sl a b) (.agg l) v hc hx
  | .ptr a b, .agg l, v, hc, hx => Conv.sat1 hm h (.ptr a b) (.agg l) v hc hx
  | .row a b, .agg l, v, hc, hx => Conv.sat1 hm h (.row a b) (.agg l) v hc hx
  | .eptr a b c d, .agg l, v, hc, hx => Conv.sat1 hm h (.eptr a b c d) (.agg l) v hc hx
  | .dptr a, .agg l, v, hc, hx => Conv.sat1 hm h (.dptr a) (.agg l) v hc hx
  | .tup a, .agg l, v, hc, hx => Conv.sat1 hm h (.tup a) (.agg l) v hc hx
  | .cnd a b, .agg l, v, hc, hx => Conv.sat1 hm h (.cnd a b) (.agg l) v hc hx
  | .cl a b, .agg l, v, hc, hx => Conv.sat1 hm h (.cl a b) (.agg l) v hc hx
  | .ub a b, .agg l, v, hc, hx => Conv.sat1 hm h (.ub a b) (.agg l) v hc hx
theorem Convs.sat (hm : MemSat S B M β w) (h : MemC M M' M M') : ∀ (l l' : List AV) (vs : List Value), Convs M M' l l' → AVsats M β w (immOf S B M β w) l vs →
    AVsats M' (cutE β M.length) w (immOf S B M' (cutE β M.length) w) l' vs
  | [], l', vs, hc, hx => by rw [hc]; exact hx
  | x :: l, l', vs, ⟨y, r, h1, h2, h3⟩, ⟨v, us, k1, k2, k3⟩ => by
    rw [h1]
    exact ⟨v, us, k1, Conv.sat hm h x y v h2 k2, Convs.sat hm h l r us h3 k3⟩
end

theorem conv_mem (hm : MemSat S B M β w) (h : MemC M M' M M') : MemSat S B M' (cutE β M.length) w := by
  refine ⟨hm.lo, fun i j ab ab' g c c' h1 h2 h3 k1 k2 k3 => ?_, fun i ab' hi => ?_, fun b hl => hm.own b (conv_live h hl), hm.gl.mono (fun b hb => ⟨hb.1, hb.2.1, fun hl => hb.2.2 (conv_live h hl)⟩) (fun _ _ _ => rfl)⟩
  · unfold cutE at h3 k3
    split at h3
    · split at k3
      · rename_i hi hj
        have hiM : M[i]? = some M[i] := List.getElem?_eq_getElem hi
        have hjM : M[j]? = some M[j] := List.getElem?_eq_getElem hj
        obtain ⟨x, e1, e2⟩ := h.old hiM
        obtain ⟨y, e3, e4⟩ := h.old hjM
        rw [h1] at e1; cases e1
        rw [k1] at e3; cases e3
        exact hm.inj i j _ _ g c c' hiM (e2.alive h2).1 h3 hjM (e4.alive k2).1 k3
      · cases k3
    · cases h3
  · rcases Nat.lt_or_ge i M.length with hlt | hge
    · have hiM : M[i]? = some M[i] := List.getElem?_eq_getElem hlt
      obtain ⟨x, e1, e2⟩ := h.old hiM
      rw [hi] at e1; cases e1
      have he := hm.ent i _ hiM
      have hβ : cutE β M.length i = β i := by simp [cutE, hlt]
      rw [hβ]
      generalize M[i] = ab at hiM e2 he
      cases ab' with
      | gone => trivial
      | box e' c' =>
        cases ab with
        | gone => exact e2.elim
        | row _ _ _ _ => exact e2.elim
        | iter _ _ => exact e2.elim
        | rowo _ _ _ _ _ _ => exact e2.elim
        | box e c =>
          obtain ⟨rfl, hc⟩ := e2
          obtain ⟨g, cc, cs, k1, k2, k3⟩ := he
          exact ⟨g, cc, cs, k1, k2, Convs.sat hm h _ _ _ hc k3⟩
      | iter s' p' =>
        cases ab with
        | gone => exact e2.elim
        | row _ _ _ _ => exact e2.elim
        | box _ _ => exact e2.elim
        | rowo _ _ _ _ _ _ => exact e2.elim
        | iter s p =>
          obtain ⟨rfl, rfl⟩ := e2
          exact he
      | rowo v' e' k' pre' mo' cells' =>
        cases ab with
        | gone => exact e2.elim
        | row _ _ _ _ => exact e2.elim
        | box _ _ => exact e2.elim
        | iter _ _ => exact e2.elim
        | rowo v e k pre mo cells =>
          obtain ⟨rfl, rfl, rfl, rfl, hc⟩ := e2
          obtain ⟨q1, q2, g, cap, cs, q3, q4, q5, q6, q7, c1, c2, c3, q8, q9, q10⟩ := he
          have q11 := Convs.sat hm h _ _ _ hc q10
          exact ⟨q1, by have e1 := q10.len; have e2 := q11.len; omega, g, cap, cs, q3, q4, q5, q6, q7, c1, c2, c3, q8, DenCs.mono (fun _ => conv_imm h) (fun _ _ _ => rfl) _ _ q9, q11⟩
      | row ver' e' k' es' =>
        cases ab with
        | gone => exact e2.elim
        | box _ _ => exact e2.elim
        | iter _ _ => exact e2.elim
        | rowo _ _ _ _ _ _ => exact e2.elim
        | row ver e k es =>
          obtain ⟨hv, rfl, rfl, rfl⟩ := e2
          refine ⟨he.1, ?_⟩
          rcases he.2 with h0 | ⟨g, cap, cs, k1, k2, k3, k4, k5, k6⟩
          · exact .inl h0
          · exact .inr ⟨g, cap, cs, k1, k2.mono hv (Nat.le_refl _), k3, k4, k5, DenCs.mono (fun _ => conv_imm h) (fun _ _ _ => rfl) _ _ k6⟩
    · obtain ⟨e, k, rfl⟩ := h.new_ hge hi
      exact ⟨fun d hd => by simp at hd, .inl ⟨by simp [cutE, Nat.not_lt.2 hge], rfl⟩⟩
theorem MemC.len : ∀ {l l' : List AB}, MemC M M' l l' → l.length ≤ l'.length
  | [], _, _ => Nat.zero_le _
  | _ :: xs, _ :: ys, h => Nat.succ_le_succ (MemC.len (l := xs) (l' := ys) h.2)
  | _ :: _, [], h => h.elim
end

/-- The slots that are remembered. -/
def KeepC (M M' : List AB) (F : List (Nat × AV)) : List (Nat × AV) → Prop
  | [] => True
  | (d, x) :: r => Conv M M' (look F d) x ∧ KeepC M M' F r

def EvOK1 : AB → AB → AB → Prop
  | .row v0 _ _ _, .row v _ _ _, .row v' _ _ _ => v = v' ∨ v0 < v'
  | .row v0 _ _ _, .rowo v _ _ _ _ _, .rowo v' _ _ _ _ _ => v = v' ∨ v0 < v'
  | .rowo v0 _ _ _ _ _, .rowo v _ _ _ _ _, .rowo v' _ _ _ _ _ => v = v' ∨ v0 < v'
  | _, _, _ => True
def EvOK : List AB → List AB → List AB → Prop
  | [], _, _ => True
  | a :: as, b :: bs, c :: cs => EvOK1 a b c ∧ EvOK as bs cs
  | _ :: _, _, _ => False
theorem EvOK.at_ : ∀ {M0 M M' : List AB} {i : Nat} {a : AB}, EvOK M0 M M' → M0[i]? = some a → ∃ b c, M[i]? = some b ∧ M'[i]? = some c ∧ EvOK1 a b c
  | [], _, _, _, _, _, h => by simp at h
  | a :: as, b :: bs, c :: cs, 0, _, h, hi => by cases hi; exact ⟨b, c, rfl, rfl, h.1⟩
  | a :: as, b :: bs, c :: cs, i + 1, a', h, hi => by
    obtain ⟨x, y, h1, h2, h3⟩ := EvOK.at_ (M0 := as) (M := bs) (M' := cs) (i := i) h.2 (by simpa using hi)
    exact ⟨x, y, by simpa using h1, by simpa using h2, h3⟩
  | _ :: _, [], _, _, _, h, _ => h.elim
  | _ :: _, _ :: _, [], _, _, h, _ => h.elim
theorem EvE.conv {M M' : List AB} {b0 b : Option (Nat × Nat)} {a x x' : AB} (h : EvE b0 b a x) (hc : EntC M M' x x') (ho : EvOK1 a x x') : EvE b0 b a x' := by
  cases a with
  | gone =>
    obtain ⟨rfl, rfl⟩ := h
    cases x' <;> first | exact ⟨rfl, rfl⟩ | exact hc.elim
  | box e l =>
    cases x with
    | gone => cases x' <;> first | exact h | exact hc.elim
    | box e' l' =>
      cases x' with
      | gone => exact h.2
      | box e'' l'' => exact ⟨hc.1.symm.trans h.1, h.2⟩
      | row _ _ _ _ => exact hc.elim
      | iter _ _ => exact hc.elim
      | rowo _ _ _ _ _ _ => exact hc.elim
    | row _ _ _ _ => exact h.elim
    | iter _ _ => exact h.elim
    | rowo _ _ _ _ _ _ => exact h.elim
  | iter s p =>
    cases x with
    | gone => cases x' <;> first | exact h | exact hc.elim
    | iter s' p' =>
      cases x' with
      | gone => exact h.2
      | iter s'' p'' => exact ⟨hc.1.symm.trans h.1, h.2⟩
      | row _ _ _ _ => exact hc.elim
      | box _ _ => exact hc.elim
      | rowo _ _ _ _ _ _ => exact hc.elim
    | row _ _ _ _ => exact h.elim
    | box _ _ => exact h.elim
    | rowo _ _ _ _ _ _ => exact h.elim
  | rowo v e k pre mo cells =>
    cases x with
    | gone => cases x' <;> first | exact trivial | exact hc.elim
    | box _ _ => exact h.elim
    | iter _ _ => exact h.elim
    | row _ _ _ _ => exact h.elim
    | rowo v' e' k' pre' mo' cells' =>
      cases x' with
      | gone => exact trivial
      | box _ _ => exact hc.elim
      | iter _ _ => exact hc.elim
      | row _ _ _ _ => exact hc.elim
      | rowo v'' e'' k'' pre'' mo'' cells'' =>
        obtain ⟨rfl, rfl, rfl, rfl, _⟩ := hc
        obtain ⟨h1, h2, h3⟩ := h
        rcases ho with rfl | ho
        · exact ⟨h1, h2, h3⟩
        · exact ⟨Nat.le_of_lt ho, h2, fun e => by omega⟩
  | row v e k es =>
    cases x with
    | gone => cases x' <;> first | exact trivial | exact hc.elim
    | box _ _ => exact h.elim
    | iter _ _ => exact h.elim
    | rowo v' e' k' pre' mo' cells' =>
      cases x' with
      | gone => exact trivial
      | box _ _ => exact hc.elim
      | iter _ _ => exact hc.elim
      | row _ _ _ _ => exact hc.elim
      | rowo v'' e'' k'' pre'' mo'' cells'' =>
        obtain ⟨rfl, rfl, rfl, rfl, _⟩ := hc
        obtain ⟨h1, h2, h3⟩ := h
        rcases ho with rfl | ho
        · exact ⟨h1, h2, h3⟩
        · exact ⟨Nat.le_of_lt ho, h2, fun e => by omega⟩
    | row v' e' k' es' =>
      cases x' with
      | gone => exact trivial
      | box _ _ => exact hc.elim
      | iter _ _ => exact hc.elim
      | rowo _ _ _ _ _ _ => exact hc.elim
      | row v'' e'' k'' es'' =>
        obtain ⟨_, rfl, rfl, rfl⟩ := hc
        obtain ⟨h1, h2, h3⟩ := h
        rcases ho with rfl | ho
        · exact ⟨h1, h2, h3⟩
        · exact ⟨Nat.le_of_lt ho, h2, fun e => by omega⟩

/-- What is known, said otherwise. -/
theorem fits_convM {P : Program} {N : Nat} {S : Nat → Prop} {w0 : World} {M0 : List AB} {β0 : Env} {L : Option Nat} {M M' : List AB} {F F' : List (Nat × AV)} (hM : MemC M M' M M') (hF : KeepC M M' F F') (hE : EvOK M0 M M') : Fits ⟨P, N, S, w0, M0, β0, L⟩ ⟨M, F⟩ ⟨M', F'⟩ := by
  rintro a w ⟨h1, h2, β, h3, h4, h5⟩
  refine ⟨h1, h2, cutE β M.length, conv_mem h3 hM, ⟨h4.os, h4.tape, h4.output, h4.size, h4.keep, fun b hb => h4.new b (conv_live hM hb), fun i ab hi => ?_⟩, fun d => ?_⟩
  · obtain ⟨x, x', k1, k2, k3⟩ := hE.at_ hi
    obtain ⟨y, k4, k5⟩ := h4.ent i ab hi
    rw [k1] at k4; cases k4
    obtain ⟨y', k6, k7⟩ := hM.old k1
    rw [k2] at k6; cases k6
    have hlt : i < M.length := (List.getElem?_eq_some_iff.1 k1).1
    exact ⟨x', k2, by simp only [cutE, hlt, if_true]; exact k5.conv k7 k3⟩
  · have key : ∀ F' : List (Nat × AV), KeepC M M' F F' → AVsat M' (cutE β M.length) w (immOf S w0.heap.size M' (cutE β M.length) w) (look F' d) (a.tmps.getD d undef) := by
      intro F'
      induction F' with
      | nil => exact fun _ => trivial
      | cons p r ih =>
        obtain ⟨e, x⟩ := p
        rintro ⟨k1, k2⟩
        cases hb : Nat.beq e d with
        | true =>
          simp only [look, hb, cond_true]
          have := Nat.eq_of_beq_eq_true hb
          subst this
          exact Conv.sat h3 hM _ _ _ k1 (h5 e)
        | false =>
          simp only [look, hb, cond_false]
          exact ih k2
    exact key F' hF
theorem fits_conv {P : Program} {N : Nat} {S : Nat → Prop} {w0 : World} {β0 : Env} {L : Option Nat} {M M' : List AB} {F F' : List (Nat × AV)} (hM : MemC M M' M M') (hF : KeepC M M' F F') : Fits ⟨P, N, S, w0, [], β0, L⟩ ⟨M, F⟩ ⟨M', F'⟩ := fits_convM hM hF trivial

theorem Sub.agg {l l' : List AV} (h : Subs l l') : Sub (.agg l) (.agg l') := fun _ _ _ _ _ ⟨cs, h1, h2⟩ => ⟨cs, h1, h.sat h2⟩
section
variable {P : Program} {ops : Array Oper} {N : Nat} {K : AS → Prop} {o : Oper} {r : List Oper} {fo fo' : Option (List Nat)} {M M' : List AB} {F : List (Nat × AV)} {dt : Tmp} {tab : List (Nat × TE)} {out : AV}
theorem r_idx_cnd (ht : TyTab P tab) {α : Type} {f : α → D} {l : List α} {j : Nat} {want c0 : Bool} {g : Tmp} {T e : Nat} {ee : TE} {x y : Operand} {q : IntKind} {n : Int} {cs : List AV} (hg : o.guard = some (j, want)) (hj : dstOf ops j = some g) (hF : guardOf want (look F g) = some c0) (ho : o.op = .indexAddr T x y) (hT : elemOf_ tab T = some (e, ee))
    (hx : aval (fun t => strip (look F t)) x = .sl ee.size (l.map f)) (hy : aval (fun t => strip (look F t)) y = .val (.int q n)) (hcs' : c0 = true → condsOf (look F) o.op.operands.toList = true) (hdd : o.dst = some dt) (hd : dstB o.dst N = true) (hn : 0 ≤ n ∧ n.toNat < l.length)
    (hcs : nfs (f (l[n.toNat]'hn.2)).cells = some cs) (hp : popF fo 0 = some fo') (k : RunX P ops N K r fo' M ((dt, .cnd c0 (.dptr cs)) :: F)) : RunX P ops N K (o :: r) fo M F :=
  RunX.mk (fun _ k => Run.pure_ (out := .cnd c0 (.dptr cs)) hd (fun _ => StepG.cnd hg hj hF hcs' fun _ => by rw [← nfs_eq hcs]; exact astep_idx ht ho hT hx hy hn.1 (map_get hn.2)) (by rw [put_eq hdd]; exact k)) hp k
theorem map_getD {α : Type} [Inhabited α] {f : α → D} {l : List α} {n : Nat} (h : n < l.length) : (l.map f)[n]? = some (f (l.getD n default)) := by simp [h]
/-- The same, where the guard alone says that it is there. -/
theorem r_idx_cnd' (ht : TyTab P tab) {α : Type} [Inhabited α] {f : α → D} {l : List α} {j : Nat} {want c0 : Bool} {g : Tmp} {T e : Nat} {ee : TE} {x y : Operand} {q : IntKind} {n : Int} {cs : List AV} (hg : o.guard = some (j, want)) (hj : dstOf ops j = some g) (hF : guardOf want (look F g) = some c0) (ho : o.op = .indexAddr T x y) (hT : elemOf_ tab T = some (e, ee))
    (hx : aval (fun t => strip (look F t)) x = .sl ee.size (l.map f)) (hy : aval (fun t => strip (look F t)) y = .val (.int q n)) (hcs' : c0 = true → condsOf (look F) o.op.operands.toList = true) (hdd : o.dst = some dt) (hd : dstB o.dst N = true) (hn : c0 = true → 0 ≤ n ∧ n.toNat < l.length)
    (hcs : nfs (f (l.getD n.toNat default)).cells = some cs) (hp : popF fo 0 = some fo') (k : RunX P ops N K r fo' M ((dt, .cnd c0 (.dptr cs)) :: F)) : RunX P ops N K (o :: r) fo M F :=
  RunX.mk (fun _ k => Run.pure_ (out := .cnd c0 (.dptr cs)) hd (fun _ => StepG.cnd hg hj hF hcs' fun h => by rw [← nfs_eq hcs]; exact astep_idx ht ho hT hx hy (hn h).1 (map_getD (hn h).2)) (by rw [put_eq hdd]; exact k)) hp k
end
theorem Sub.altl (x y : AV) : Sub x (.alt x y) := fun _ _ _ _ _ h => .inl h
theorem Sub.ub {b p q : Bool} (hp : b = true → p = true) (hq : b = false → q = true) : Sub (.val (.bool b)) (.ub p q) := fun _ _ _ _ _ h => ⟨b, h, hp, hq⟩
/-- The ways in which one thing known says another. -/
theorem c_sub {M M' : List AB} {x y : AV} (hf : x.free = true) (h : Sub x y) (hl : isAgg1 y = false) : Conv M M' x y := by
  cases x <;> cases y <;> first | (cases hl; done) | exact Or.inl ⟨hf, h⟩ | exact Or.inr ⟨hf, h⟩ | exact trivial
theorem c_row {M M' : List AB} {i ver ver' e k : Nat} {es es' : List D} (h : M[i]? = some (.row ver e k es)) (h' : M'[i]? = some (.row ver' e k es')) (he : es = es') : Conv M M' (.row i ver) (.row i ver') :=
  Or.inr (Or.inr (Or.inl ⟨i, ver, ver', e, k, es, es', rfl, rfl, h, h', he⟩))
theorem c_thaw {M M' : List AB} {i ver e k : Nat} {es es' : List D} (h : M[i]? = some (.row ver e k es)) (h' : M'[i]? = some .gone) (he : es = es') : Conv M M' (.row i ver) (.sl k es') :=
  Or.inr (Or.inr (Or.inr (Or.inl ⟨i, ver, e, k, es, es', rfl, rfl, h, h', he⟩)))
theorem c_nil {M M' : List AB} {n e k : Nat} (h' : M'[n]? = some (.row 0 e k [])) (hn : Nat.ble M.length n = true) : Conv M M' (.val (.slice none 0 0)) (.row n 0) :=
  Or.inr (Or.inr (Or.inr (Or.inr (Or.inl ⟨n, e, k, rfl, rfl, h', Nat.le_of_ble_eq_true hn⟩))))
theorem c_ro {M M' : List AB} {i ver ver' e k : Nat} {pre : List D} {mo : Nat} {c c' : List AV} (h : M[i]? = some (.rowo ver e k pre mo c)) (h' : M'[i]? = some (.rowo ver' e k pre mo c')) : Conv M M' (.row i ver) (.row i ver') :=
  Or.inr (Or.inr (Or.inr (Or.inr (Or.inr (Or.inr ⟨i, ver, ver', e, k, pre, mo, c, c', .inl ⟨rfl, rfl⟩, h, h'⟩)))))
theorem c_eo {M M' : List AB} {i ver ver' j off e k : Nat} {pre : List D} {mo : Nat} {c c' : List AV} (h : M[i]? = some (.rowo ver e k pre mo c)) (h' : M'[i]? = some (.rowo ver' e k pre mo c')) : Conv M M' (.eptr i ver j off) (.eptr i ver' j off) :=
  Or.inr (Or.inr (Or.inr (Or.inr (Or.inr (Or.inr ⟨i, ver, ver', e, k, pre, mo, c, c', .inr ⟨j, off, rfl, rfl⟩, h, h'⟩)))))
theorem c_alt {M M' : List AB} {z : AV} {i off : Nat} {ab ab' : AB} (h : M[i]? = some ab) (hb : ab.isRow = false) (h' : M'[i]? = some ab') (hb' : ab'.isRow = false) : Conv M M' (.ptr i off) (.alt z (.ptr i off)) :=
  Or.inr (Or.inr (Or.inr (Or.inr (Or.inr (Or.inl ⟨z, i, off, ab, ab', rfl, rfl, h, hb, h', hb'⟩)))))
theorem c_ptr {M M' : List AB} {i off : Nat} {ab ab' : AB} (h : M[i]? = some ab) (hb : ab.isRow = false) (h' : M'[i]? = some ab') (hb' : ab'.isRow = false) : Conv M M' (.ptr i off) (.ptr i off) :=
  Or.inr (Or.inl ⟨i, off, ab, ab', rfl, rfl, h, hb, h', hb'⟩)

end Go.Proofs.YtiolnmfaeenlmaaGreatDoor
