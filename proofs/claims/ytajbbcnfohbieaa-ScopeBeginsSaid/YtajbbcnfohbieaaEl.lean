/- The engine, part 12: the rules as walks use them. -/
import Derived.Test.YtajbbcnfohbieaaEk
namespace Go.Proofs.Ytajbbcnfohbieaa
open Go Go.RowKit

section
variable {P : Program} {ops : Array Oper} {N : Nat} {K : AS → Prop} {o : Oper} {r : List Oper} {fo fo' : Option (List Nat)} {M M' : List AB} {F : List (Nat × AV)} {dt : Tmp} {tab : List (Nat × TE)} {out : AV} {c : Prop}

/-- A run whose kinds are given, or are anyhow. -/
def RunX (P : Program) (ops : Array Oper) (N : Nat) (K : AS → Prop) (l : List Oper) : Option (List Nat) → List AB → List (Nat × AV) → Prop
  | none, M, F => ∃ fl, Run P ops N K l fl ⟨M, F⟩
  | some fl, M, F => Run P ops N K l fl ⟨M, F⟩
def popF : Option (List Nat) → Nat → Option (Option (List Nat))
  | none, _ => some none
  | some [], _ => none
  | some (k' :: fl), k => bif Nat.beq k k' || (Nat.ble k k' && Nat.blt k' 3) then some (some fl) else none
theorem StepK.up {o : Oper} {M M' : List AB} {G : Nat → AV} {x : AV} {a b : Nat} (hab : a = b ∨ (a ≤ b ∧ b < 3)) (h : StepK P ops a o M G M' x) : StepK P ops b o M G M' x := by
  rcases hab with rfl | ⟨hab, hb⟩
  · exact h
  match a, b with
  | 0, 0 => exact h
  | 0, 1 => exact ⟨h.1, by have := h.2 M; obtain ⟨rfl, _⟩ := h; exact this⟩
  | 0, 2 => obtain ⟨rfl, h⟩ := h; exact h _
  | 1, 0 => omega
  | 1, 1 => exact h
  | 1, 2 => obtain ⟨rfl, h⟩ := h; exact h
  | 2, 0 => omega
  | 2, 1 => omega
  | 2, 2 => exact h
  | _, b + 3 => omega
  | a + 3, 0 => omega
  | a + 3, 1 => omega
  | a + 3, 2 => omega
theorem RunX.mk {k : Nat} {M' : List AB} {F' : List (Nat × AV)} (h : ∀ fl, Run P ops N K r fl ⟨M', F'⟩ → Run P ops N K (o :: r) (k :: fl) ⟨M, F⟩) (hp : popF fo k = some fo') (hk : RunX P ops N K r fo' M' F') : RunX P ops N K (o :: r) fo M F := by
  cases fo with
  | none =>
    cases hp
    obtain ⟨fl, hk⟩ := hk
    exact ⟨k :: fl, h fl hk⟩
  | some l =>
    cases l with
    | nil => cases hp
    | cons k' fl =>
      simp only [popF] at hp
      cases hb : (Nat.beq k k' || (Nat.ble k k' && Nat.blt k' 3)) with
      | false => rw [hb] at hp; cases hp
      | true =>
        rw [hb] at hp
        cases hp
        obtain ⟨k0, fl0, M1, x, e1, e2, e3, e4⟩ := h fl hk
        cases e1
        exact ⟨k', fl, M1, x, rfl, e2, e3.up (by simp only [Bool.or_eq_true, Bool.and_eq_true, Nat.beq_eq, Nat.ble_eq, Nat.blt_eq] at hb; exact hb), e4⟩
theorem r_done (h : K ⟨M, F⟩) : RunX P ops N K [] none M F := ⟨[], rfl, h⟩
theorem r_done' (h : K ⟨M, F⟩) : RunX P ops N K [] (some []) M F := ⟨rfl, h⟩
theorem put_eq {x : AV} (h : o.dst = some dt) : putF F o.dst x = (dt, x) :: F := by rw [h]; rfl
theorem put_none {x : AV} (h : o.dst = none) : putF F o.dst x = F := by rw [h]; rfl

theorem r_ev (ht : TyTab P tab) (hg : o.guard = none) (he : ev tab (aval (look F)) o.op = some (out, c)) (hdd : o.dst = some dt) (hd : dstB o.dst N = true) (hc : c) (hp : popF fo 0 = some fo') (k : RunX P ops N K r fo' (M) ((dt, out) :: F)) : RunX P ops N K (o :: r) fo M F :=
  RunX.mk (fun _ k => Run.pure_ hd (fun _ => StepG.plain hg (ev_sound ht he hc)) (by rw [put_eq hdd]; exact k)) hp k
theorem r_ev_on (ht : TyTab P tab) {j : Nat} {want : Bool} {g : Tmp} (hg : o.guard = some (j, want)) (hj : dstOf ops j = some g) (hF : look F g = .val (.bool want)) (he : ev tab (aval (look F)) o.op = some (out, c)) (hdd : o.dst = some dt) (hd : dstB o.dst N = true) (hc : c)
    (hp : popF fo 0 = some fo') (k : RunX P ops N K r fo' (M) ((dt, out) :: F)) : RunX P ops N K (o :: r) fo M F :=
  RunX.mk (fun _ k => Run.pure_ hd (fun _ => StepG.on hg hj hF (ev_sound ht he hc)) (by rw [put_eq hdd]; exact k)) hp k
theorem r_off {j : Nat} {want : Bool} {g : Tmp} (hg : o.guard = some (j, want)) (hj : dstOf ops j = some g) (hF : look F g = .val (.bool (!want))) (hdd : o.dst = some dt) (hd : dstB o.dst N = true)
    (hp : popF fo 0 = some fo') (k : RunX P ops N K r fo' (M) ((dt, (.val undef)) :: F)) : RunX P ops N K (o :: r) fo M F :=
  RunX.mk (fun _ k => Run.pure_ hd (fun _ => StepG.off hg hj hF) (by rw [put_eq hdd]; exact k)) hp k
theorem r_ev_cnd (ht : TyTab P tab) {j : Nat} {want c0 : Bool} {g : Tmp} (hg : o.guard = some (j, want)) (hj : dstOf ops j = some g) (hF : guardOf want (look F g) = some c0)
    (he : ev tab (aval fun t => strip (look F t)) o.op = some (out, c)) (hdd : o.dst = some dt) (hd : dstB o.dst N = true) (hcs : c0 = true → condsOf (look F) o.op.operands.toList = true) (hc : c0 = true → c)
    (hp : popF fo 0 = some fo') (k : RunX P ops N K r fo' (M) ((dt, (.cnd c0 out)) :: F)) : RunX P ops N K (o :: r) fo M F :=
  RunX.mk (fun _ k => Run.pure_ hd (fun _ => StepG.cnd hg hj hF hcs fun h => ev_sound ht he (hc h)) (by rw [put_eq hdd]; exact k)) hp k

theorem cs1 {c : Bool} (h : c = true) : (c && true) = true := by rw [h]; rfl
theorem cs2 {c : Bool} (h : c = true) : (c && (c && true)) = true := by rw [h]; rfl
theorem cs3 {c : Bool} (h : c = true) : (c && (c && (c && true))) = true := by rw [h]; rfl
theorem r_id (h : RunX P ops N K (o :: r) fo M F) : RunX P ops N K (o :: r) fo M F := h
/-- A choice of two. -/
theorem r_or {q x y : Operand} {b d : Bool} (hg : o.guard = none) (ho : o.op = .pick q x y) (hq : aval (look F) q = .val (.bool b)) (hx : aval (look F) x = .val (.bool true)) (hy : aval (look F) y = .cnd (b == false) (.val (.bool d)))
    (hdd : o.dst = some dt) (hd : dstB o.dst N = true) (hp : popF fo 0 = some fo') (k : RunX P ops N K r fo' (M) ((dt, (.val (.bool (b || d)))) :: F)) : RunX P ops N K (o :: r) fo M F :=
  RunX.mk (fun _ k => Run.pure_ hd (fun _ => StepG.plain hg (astep_or ho hq hx hy)) (by rw [put_eq hdd]; exact k)) hp k
theorem r_and {q x y : Operand} {b d : Bool} (hg : o.guard = none) (ho : o.op = .pick q x y) (hq : aval (look F) q = .val (.bool b)) (hx : aval (look F) x = .cnd (b == true) (.val (.bool d))) (hy : aval (look F) y = .val (.bool false))
    (hdd : o.dst = some dt) (hd : dstB o.dst N = true) (hp : popF fo 0 = some fo') (k : RunX P ops N K r fo' (M) ((dt, (.val (.bool (b && d)))) :: F)) : RunX P ops N K (o :: r) fo M F :=
  RunX.mk (fun _ k => Run.pure_ hd (fun _ => StepG.plain hg (astep_and ho hq hx hy)) (by rw [put_eq hdd]; exact k)) hp k
theorem r_pick_t {q x y : Operand} (hg : o.guard = none) (ho : o.op = .pick q x y) (hq : aval (look F) q = .val (.bool true)) (hx : nf (aval (look F) x) = some out)
    (hdd : o.dst = some dt) (hd : dstB o.dst N = true) (hp : popF fo 0 = some fo') (k : RunX P ops N K r fo' (M) ((dt, out) :: F)) : RunX P ops N K (o :: r) fo M F :=
  RunX.mk (fun _ k => Run.pure_ hd (fun _ => StepG.plain hg (astep_pick ho hq (fun _ => by rw [nf_eq hx]; exact Sub.refl _) (fun h => by cases h))) (by rw [put_eq hdd]; exact k)) hp k
theorem r_pick_f {q x y : Operand} (hg : o.guard = none) (ho : o.op = .pick q x y) (hq : aval (look F) q = .val (.bool false)) (hx : nf (aval (look F) y) = some out)
    (hdd : o.dst = some dt) (hd : dstB o.dst N = true) (hp : popF fo 0 = some fo') (k : RunX P ops N K r fo' (M) ((dt, out) :: F)) : RunX P ops N K (o :: r) fo M F :=
  RunX.mk (fun _ k => Run.pure_ hd (fun _ => StepG.plain hg (astep_pick ho hq (fun h => by cases h) (fun _ => by rw [nf_eq hx]; exact Sub.refl _))) (by rw [put_eq hdd]; exact k)) hp k

/-- Own memory read. -/
def ldM (tab : List (Nat × TE)) (M : List AB) (ρ : Operand → AV) : Op → Option AV
  | .load T x => match ρ x with
    | .ptr i off => match M[i]? with
      | some (.box _ cells) => match tget tab T with
        | some te => ldAV te (cells.drop off)
        | none => none
      | _ => none
    | _ => none
  | .call { callee := .builtin .len, args := ⟨[x]⟩, argTypes := ⟨[t]⟩ } => match ρ x with
    | .row i ver => match M[i]? with
      | some (.row ver' _ _ es) => bif Nat.beq ver' ver then (match elemOf_ tab t with
        | some _ => some (.val (.int .i64 es.length))
        | none => none) else none
      | _ => none
    | _ => none
  | _ => none
theorem ldM_sound (ht : TyTab P tab) {M : List AB} {ρ : Operand → AV} (h : ldM tab M ρ o.op = some out) : AStep P o M ρ M out := by
  unfold ldM at h
  split at h
  · rename_i T x ho
    split at h
    · rename_i i off hx
      split at h
      · rename_i e cells hM
        split at h
        · rename_i te hT; exact astep_load ht ho hT hx hM (ldAV_eq h)
        · cases h
      · cases h
    · cases h
  · rename_i x t ho
    split at h
    · rename_i i ver hx
      split at h
      · rename_i ver' e k es hM
        cases hv : Nat.beq ver' ver with
        | false => rw [hv] at h; cases h
        | true =>
          rw [hv] at h
          simp only [cond_true] at h
          split at h
          · rename_i ee hk
            cases h
            rw [Nat.eq_of_beq_eq_true hv] at hM
            exact astep_len_row ht ho hk hx hM
          · cases h
      · cases h
    · cases h
  · cases h
theorem r_ld (ht : TyTab P tab) (hg : o.guard = none) (he : ldM tab M (aval (look F)) o.op = some out) (hdd : o.dst = some dt) (hd : dstB o.dst N = true) (hp : popF fo 1 = some fo') (k : RunX P ops N K r fo' (M) ((dt, out) :: F)) : RunX P ops N K (o :: r) fo M F :=
  RunX.mk (fun _ k => Run.quiet hd (StepG.plain hg (ldM_sound ht he)) (by rw [put_eq hdd]; exact k)) hp k
theorem r_ld_on (ht : TyTab P tab) {j : Nat} {want : Bool} {g : Tmp} (hg : o.guard = some (j, want)) (hj : dstOf ops j = some g) (hF : look F g = .val (.bool want)) (he : ldM tab M (aval (look F)) o.op = some out) (hdd : o.dst = some dt) (hd : dstB o.dst N = true)
    (hp : popF fo 1 = some fo') (k : RunX P ops N K r fo' (M) ((dt, out) :: F)) : RunX P ops N K (o :: r) fo M F :=
  RunX.mk (fun _ k => Run.quiet hd (StepG.on hg hj hF (ldM_sound ht he)) (by rw [put_eq hdd]; exact k)) hp k
theorem r_ld_cnd (ht : TyTab P tab) {j : Nat} {want c0 : Bool} {g : Tmp} (hg : o.guard = some (j, want)) (hj : dstOf ops j = some g) (hF : guardOf want (look F g) = some c0)
    (he : ldM tab M (aval fun t => strip (look F t)) o.op = some out) (hdd : o.dst = some dt) (hd : dstB o.dst N = true) (hcs : c0 = true → condsOf (look F) o.op.operands.toList = true)
    (hp : popF fo 1 = some fo') (k : RunX P ops N K r fo' (M) ((dt, (.cnd c0 out)) :: F)) : RunX P ops N K (o :: r) fo M F :=
  RunX.mk (fun _ k => Run.quiet hd (StepG.cnd hg hj hF hcs fun _ => ldM_sound ht he) (by rw [put_eq hdd]; exact k)) hp k

/-- New own blocks; writes. -/
def nfs : List AV → Option (List AV)
  | [] => some []
  | x :: r => match nf x, nfs r with
    | some y, some ys => some (y :: ys)
    | _, _ => none
theorem nfs_eq : ∀ {l m : List AV}, nfs l = some m → l = m
  | [], _, h => by cases h; rfl
  | x :: r, m, h => by
    simp only [nfs] at h
    split at h
    · rename_i y ys h1 h2
      cases h
      rw [nf_eq h1, nfs_eq h2]
    · cases h
def wrM (tab : List (Nat × TE)) (M : List AB) (ρ : Operand → AV) : Op → Option (List AB × AV)
  | .box T x => bif oneCsM M (cellsOf (ρ x)) then (nfs (cellsOf (ρ x))).map fun l => (M ++ [.box T l], .ptr M.length 0) else none
  | .alloc T => match tget tab T with
    | some te => some (M ++ [.box T (te.zero.map .val)], .ptr M.length 0)
    | none => none
  | .store T x y => match ρ x with
    | .ptr i off => match M[i]? with
      | some (.box e cells) => match tget tab T with
        | some te => bif oneCsM M (cellsOf (ρ y)) && Nat.beq (cellsOf (ρ y)).length te.size && Nat.ble (off + te.size) cells.length then
            (nfs (putCells cells off (cellsOf (ρ y)))).map fun l => (M.set i (.box e l), .val undef) else none
        | none => none
      | _ => none
    | _ => none
  | _ => none
theorem wrM_sound (ht : TyTab P tab) {M M' : List AB} {ρ : Operand → AV} (h : wrM tab M ρ o.op = some (M', out)) : AStep P o M ρ M' out := by
  unfold wrM at h
  split at h
  · rename_i T x ho
    cases hx : oneCsM M (cellsOf (ρ x)) with
    | false => rw [hx] at h; cases h
    | true =>
      rw [hx] at h
      obtain ⟨l, h1, h2⟩ := Option.map_eq_some_iff.1 h
      cases h2
      rw [← nfs_eq h1]
      exact astep_box ho hx
  · rename_i T ho
    split at h
    · rename_i te hT; cases h; exact astep_alloc ht ho hT
    · cases h
  · rename_i T x y ho
    split at h
    · rename_i i off hx
      split at h
      · rename_i e cells hM
        split at h
        · rename_i te hT
          cases hb : (oneCsM M (cellsOf (ρ y)) && Nat.beq (cellsOf (ρ y)).length te.size && Nat.ble (off + te.size) cells.length) with
          | false => rw [hb] at h; cases h
          | true =>
            rw [hb] at h
            simp only [Bool.and_eq_true] at hb
            obtain ⟨l, h1, h2⟩ := Option.map_eq_some_iff.1 h
            cases h2
            rw [← nfs_eq h1]
            exact astep_store ht ho hT hx hM hb.1.1 (Nat.eq_of_beq_eq_true hb.1.2) hb.2
        · cases h
      · cases h
    · cases h
  · cases h
/-- A list of own memory, laid open. -/
def nfM : List AB → List AB
  | [] => []
  | x :: r => x :: nfM r
theorem r_st (ht : TyTab P tab) {M' : List AB} (hg : o.guard = none) (he : wrM tab M (aval (look F)) o.op = some (M', out)) (hdd : o.dst = none) (hp : popF fo 2 = some fo') (k : RunX P ops N K r fo' M' F) : RunX P ops N K (o :: r) fo M F :=
  RunX.mk (fun _ k => Run.eff (by rw [hdd]; rfl) (StepG.plain hg (wrM_sound ht he)) (by rw [put_none hdd]; exact k)) hp k
theorem r_wr (ht : TyTab P tab) {M' : List AB} (hg : o.guard = none) (he : wrM tab M (aval (look F)) o.op = some (M', out)) (hdd : o.dst = some dt) (hd : dstB o.dst N = true) (hp : popF fo 2 = some fo') (k : RunX P ops N K r fo' (M') ((dt, out) :: F)) : RunX P ops N K (o :: r) fo M F :=
  RunX.mk (fun _ k => Run.eff hd (StepG.plain hg (wrM_sound ht he)) (by rw [put_eq hdd]; exact k)) hp k

/-- Slices that are written out, read, appended to. -/
theorem r_built (ht : TyTab P tab) {T n e : Nat} {ee : TE} {parts : Array (Nat × Operand)} {ds : List D} (hg : o.guard = none) (ho : o.op = .buildSlice T n parts) (hT : elemOf_ tab T = some (e, ee))
    (hok : (Nat.blt 0 ee.size && Nat.beq ee.zero.length ee.size && Nat.beq (partsOf parts).length n && Nat.ble (n * ee.size) 16777216 && inOrder parts.toList 0) = true)
    (hds : toDall ((partsOf parts).map (aval (look F))) = some ds) (hf : fitK ee.size ((partsOf parts).map (aval (look F))) ds = true)
    (hdd : o.dst = some dt) (hd : dstB o.dst N = true) (hp : popF fo 1 = some fo') (k : RunX P ops N K r fo' (M) ((dt, (.sl ee.size ds)) :: F)) : RunX P ops N K (o :: r) fo M F :=
  RunX.mk (fun _ k => Run.quiet hd (StepG.plain hg (astep_buildSlice ht ho hT hok hds hf)) (by rw [put_eq hdd]; exact k)) hp k
theorem r_built_row (ht : TyTab P tab) {T n e : Nat} {ee : TE} {parts : Array (Nat × Operand)} {ds : List D} (hg : o.guard = none) (ho : o.op = .buildSlice T n parts) (hT : elemOf_ tab T = some (e, ee))
    (hok : (Nat.blt 0 ee.size && Nat.beq ee.zero.length ee.size && Nat.beq (partsOf parts).length n && Nat.ble (n * ee.size) 16777216 && inOrder parts.toList 0) = true)
    (hds : toDall ((partsOf parts).map (aval (look F))) = some ds) (hf : fitK ee.size ((partsOf parts).map (aval (look F))) ds = true)
    (hdd : o.dst = some dt) (hd : dstB o.dst N = true) (hp : popF fo 2 = some fo') (k : RunX P ops N K r fo' (M ++ [.row 0 e ee.size ds]) ((dt, (.row M.length 0)) :: F)) : RunX P ops N K (o :: r) fo M F :=
  RunX.mk (fun _ k => Run.eff hd (StepG.plain hg (astep_buildRow ht ho hT hok hds hf)) (by rw [put_eq hdd]; exact k)) hp k
theorem r_built0 (ht : TyTab P tab) {T e : Nat} {ee : TE} (hg : o.guard = none) (ho : o.op = .buildSlice T 0 #[]) (hT : elemOf_ tab T = some (e, ee))
    (hok : (Nat.blt 0 ee.size && Nat.beq ee.zero.length ee.size) = true)
    (hdd : o.dst = some dt) (hd : dstB o.dst N = true) (hp : popF fo 2 = some fo') (k : RunX P ops N K r fo' (M ++ [.row 0 e ee.size []]) ((dt, .row M.length 0) :: F)) : RunX P ops N K (o :: r) fo M F := by
  rw [Bool.and_eq_true] at hok
  refine r_built_row ht hg ho hT (ds := []) ?_ rfl rfl hdd hd hp k
  rw [hok.1, hok.2]
  simp [partsOf, inOrder]
theorem r_append (ht : TyTab P tab) {T e : Nat} {ee : TE} {x y : Operand} {i ver : Nat} {es xs : List D} (hg : o.guard = none) (ho : o.op = .call { callee := .builtin .append, args := #[x, y], argTypes := #[T, T] }) (hT : elemOf_ tab T = some (e, ee))
    (hok : (Nat.blt 0 ee.size && Nat.beq ee.zero.length ee.size && Nat.blt 0 ee.bytes) = true) (hx : aval (look F) x = .row i ver) (hM : M[i]? = some (.row ver e ee.size es)) (hy : aval (look F) y = .sl ee.size xs)
    (hdd : o.dst = some dt) (hd : dstB o.dst N = true) (hb : (es.length + xs.length) * ee.bytes ≤ 140737488355328) (hp : popF fo 2 = some fo') (k : RunX P ops N K r fo' (M.set i (.row (ver + 2) e ee.size (es ++ xs))) ((dt, (.row i (ver + 2))) :: F)) : RunX P ops N K (o :: r) fo M F :=
  RunX.mk (fun _ k => Run.eff hd (StepG.plain hg (astep_append ht ho hT hok hx hM hy hb)) (by rw [put_eq hdd]; exact k)) hp k
theorem r_append_nil (ht : TyTab P tab) {T e : Nat} {ee : TE} {x y : Operand} {xs : List D} (hg : o.guard = none) (ho : o.op = .call { callee := .builtin .append, args := #[x, y], argTypes := #[T, T] }) (hT : elemOf_ tab T = some (e, ee))
    (hok : (Nat.blt 0 ee.size && Nat.beq ee.zero.length ee.size && Nat.blt 0 ee.bytes) = true) (hx : aval (look F) x = .val (.slice none 0 0)) (hy : aval (look F) y = .sl ee.size xs)
    (hdd : o.dst = some dt) (hd : dstB o.dst N = true) (hb : xs.length * ee.bytes ≤ 140737488355328) (hp : popF fo 2 = some fo') (k : RunX P ops N K r fo' (M ++ [.row 0 e ee.size xs]) ((dt, (.row M.length 0)) :: F)) : RunX P ops N K (o :: r) fo M F :=
  RunX.mk (fun _ k => Run.eff hd (StepG.plain hg (astep_append_nil ht ho hT hok hx hy hb)) (by rw [put_eq hdd]; exact k)) hp k

/-- An element of a slice that is data, of typed elements. -/
theorem map_get {α : Type} {f : α → D} {l : List α} {n : Nat} (h : n < l.length) : (l.map f)[n]? = some (f l[n]) := by simp [h]
theorem r_idx (ht : TyTab P tab) {α : Type} {f : α → D} {l : List α} {T e : Nat} {ee : TE} {x y : Operand} {q : IntKind} {n : Int} {cs : List AV} (hg : o.guard = none) (ho : o.op = .indexAddr T x y) (hT : elemOf_ tab T = some (e, ee))
    (hx : aval (look F) x = .sl ee.size (l.map f)) (hy : aval (look F) y = .val (.int q n)) (hdd : o.dst = some dt) (hd : dstB o.dst N = true) (hn : 0 ≤ n ∧ n.toNat < l.length) (hcs : nfs (f (l[n.toNat]'hn.2)).cells = some cs)
    (hp : popF fo 0 = some fo') (k : RunX P ops N K r fo' (M) ((dt, (.dptr cs)) :: F)) : RunX P ops N K (o :: r) fo M F :=
  RunX.mk (fun _ k => Run.pure_ (out := .dptr cs) hd (fun _ => StepG.plain hg (by rw [← nfs_eq hcs]; exact astep_idx ht ho hT hx hy hn.1 (map_get hn.2))) (by rw [put_eq hdd]; exact k)) hp k

/-- The length of a slice of typed elements. -/
theorem astep_len_map (ht : TyTab P tab) {α : Type} {f : α → D} {l : List α} {ρ : Operand → AV} {T e n : Nat} {ee : TE} {x : Operand} (ho : o.op = .call { callee := .builtin .len, args := #[x], argTypes := #[T] }) (hT : elemOf_ tab T = some (e, ee)) (hx : ρ x = .sl n (l.map f)) :
    AStep P o M ρ M (.val (.int .i64 l.length)) := by
  have := astep_len (P := P) (M := M) ht ho hT hx
  rwa [List.length_map] at this
theorem r_len (ht : TyTab P tab) {α : Type} {f : α → D} {l : List α} {T e n : Nat} {ee : TE} {x : Operand} (hg : o.guard = none) (ho : o.op = .call { callee := .builtin .len, args := #[x], argTypes := #[T] }) (hT : elemOf_ tab T = some (e, ee)) (hx : aval (look F) x = .sl n (l.map f))
    (hdd : o.dst = some dt) (hd : dstB o.dst N = true) (hp : popF fo 0 = some fo') (k : RunX P ops N K r fo' M ((dt, .val (.int .i64 l.length)) :: F)) : RunX P ops N K (o :: r) fo M F :=
  RunX.mk (fun _ k => Run.pure_ hd (fun _ => StepG.plain hg (astep_len_map ht ho hT hx)) (by rw [put_eq hdd]; exact k)) hp k
theorem r_len_on (ht : TyTab P tab) {α : Type} {f : α → D} {l : List α} {T e n : Nat} {ee : TE} {x : Operand} {j : Nat} {want : Bool} {g : Tmp} (hg : o.guard = some (j, want)) (hj : dstOf ops j = some g) (hF : look F g = .val (.bool want)) (ho : o.op = .call { callee := .builtin .len, args := #[x], argTypes := #[T] }) (hT : elemOf_ tab T = some (e, ee)) (hx : aval (look F) x = .sl n (l.map f))
    (hdd : o.dst = some dt) (hd : dstB o.dst N = true) (hp : popF fo 0 = some fo') (k : RunX P ops N K r fo' M ((dt, .val (.int .i64 l.length)) :: F)) : RunX P ops N K (o :: r) fo M F :=
  RunX.mk (fun _ k => Run.pure_ hd (fun _ => StepG.on hg hj hF (astep_len_map ht ho hT hx)) (by rw [put_eq hdd]; exact k)) hp k
theorem r_len_cnd (ht : TyTab P tab) {α : Type} {f : α → D} {l : List α} {T e n : Nat} {ee : TE} {x : Operand} {j : Nat} {want c0 : Bool} {g : Tmp} (hg : o.guard = some (j, want)) (hj : dstOf ops j = some g) (hF : guardOf want (look F g) = some c0) (ho : o.op = .call { callee := .builtin .len, args := #[x], argTypes := #[T] }) (hT : elemOf_ tab T = some (e, ee))
    (hx : aval (fun t => strip (look F t)) x = .sl n (l.map f)) (hcs : c0 = true → condsOf (look F) o.op.operands.toList = true)
    (hdd : o.dst = some dt) (hd : dstB o.dst N = true) (hp : popF fo 0 = some fo') (k : RunX P ops N K r fo' M ((dt, .cnd c0 (.val (.int .i64 l.length))) :: F)) : RunX P ops N K (o :: r) fo M F :=
  RunX.mk (fun _ k => Run.pure_ hd (fun _ => StepG.cnd hg hj hF hcs fun _ => astep_len_map ht ho hT hx) (by rw [put_eq hdd]; exact k)) hp k

/-- A remainder, a quotient of whatever sign. -/
theorem r_rem {t u : TypeId} {x y : Operand} {k : IntKind} {a b : Int} (hg : o.guard = none) (ho : o.op = .binOp .rem t x y u) (hx : aval (look F) x = .val (.int k a)) (hy : aval (look F) y = .val (.int k b)) (hdd : o.dst = some dt) (hd : dstB o.dst N = true) (hb : b ≠ 0)
    (hp : popF fo 0 = some fo') (k : RunX P ops N K r fo' M ((dt, .val (.int k (a.tmod b))) :: F)) : RunX P ops N K (o :: r) fo M F :=
  RunX.mk (fun _ k => Run.pure_ hd (fun _ => StepG.plain hg (astep_rem ho hx hy hb)) (by rw [put_eq hdd]; exact k)) hp k

/-- A call by contract. -/
theorem r_call {f : FuncId} {xs : Array Operand} {ts : Array TypeId} {cargs : List AV} {res : AV} (hc : PCalls P f cargs res) (hcall : Callable P f) (hg : o.guard = none) (ho : o.op = .call { callee := .value (.func f), args := xs, argTypes := ts })
    (hargs : Subs (xs.toList.map (aval (look F))) cargs) (hfr : (AV.frees cargs && res.free) = true) (hdd : o.dst = some dt) (hd : dstB o.dst N = true) (hp : popF fo 1 = some fo') (k : RunX P ops N K r fo' (M) ((dt, res) :: F)) : RunX P ops N K (o :: r) fo M F := by
  rw [Bool.and_eq_true] at hfr
  exact RunX.mk (fun _ k => Run.quiet hd (StepG.plain hg (astep_call ho hcall hc hargs hfr.1 hfr.2)) (by rw [put_eq hdd]; exact k)) hp k
theorem r_call_cnd {j : Nat} {want c0 : Bool} {g : Tmp} {f : FuncId} {xs : Array Operand} {ts : Array TypeId} {cargs : List AV} {res : AV} (hc : c0 = true → PCalls P f cargs res) (hcall : Callable P f) (hg : o.guard = some (j, want)) (hj : dstOf ops j = some g)
    (hF : guardOf want (look F g) = some c0) (ho : o.op = .call { callee := .value (.func f), args := xs, argTypes := ts }) (hcs : c0 = true → condsOf (look F) o.op.operands.toList = true)
    (hargs : Subs (xs.toList.map (aval fun t => strip (look F t))) cargs) (hfr : (AV.frees cargs && res.free) = true) (hdd : o.dst = some dt) (hd : dstB o.dst N = true) (hp : popF fo 1 = some fo') (k : RunX P ops N K r fo' (M) ((dt, (.cnd c0 res)) :: F)) : RunX P ops N K (o :: r) fo M F := by
  rw [Bool.and_eq_true] at hfr
  exact RunX.mk (fun _ k => Run.quiet hd (StepG.cnd hg hj hF hcs fun h => astep_call ho hcall (hc h) hargs hfr.1 hfr.2) (by rw [put_eq hdd]; exact k)) hp k
end

section
variable {cx : Cx} {s : AS} {Q : Exit → AS → Prop}
theorem a_region {P : Program} {N : Nat} {S : Nat → Prop} {w0 : World} {M0 M : List AB} {β0 : Env} {L : Option Nat} {F : List (Nat × AV)} {id : Nat} {l : List Oper} (h : RunX P l.toArray N (fun s' => Q .normal s') l none M F) : AWp ⟨P, N, S, w0, M0, β0, L⟩ (.region id l.toArray false) ⟨M, F⟩ Q := by
  obtain ⟨fl, h⟩ := h
  exact awp_region h
theorem a_draw {P : Program} {N : Nat} {S : Nat → Prop} {w0 : World} {M0 M : List AB} {β0 : Env} {L : Option Nat} {F : List (Nat × AV)} {id : Nat} {l : List Oper} (hm : P.follows .mixedOrders = true) (fl : List Nat) (hok : ordOK l.toArray fl (ancs l []) = true) (h : RunX P l.toArray N (fun s' => Q .normal s') l (some fl) M F) : AWp ⟨P, N, S, w0, M0, β0, L⟩ (.region id l.toArray true) ⟨M, F⟩ Q :=
  awp_region_draw hm h hok
theorem a_draw1 {P : Program} {N : Nat} {S : Nat → Prop} {w0 : World} {M0 M : List AB} {β0 : Env} {L : Option Nat} {F : List (Nat × AV)} {id : Nat} {l : List Oper} (hm : P.follows .mixedOrders = true) (hok : ordOK l.toArray (List.replicate l.length 1) (ancs l []) = true)
    (h : RunX P l.toArray N (fun s' => Q .normal s') l (some (List.replicate l.length 1)) M F) : AWp ⟨P, N, S, w0, M0, β0, L⟩ (.region id l.toArray true) ⟨M, F⟩ Q := a_draw hm _ hok h
theorem thenA_exit {K : AS → Prop} {id : Nat} (h : Q (.exit id) s) : thenA K Q (.exit id) s := h
theorem thenA_ret {K : AS → Prop} (h : Q .ret s) : thenA K Q .ret s := h
theorem blockA_normal {id : Nat} (h : Q .normal s) : blockA id Q .normal s := h
theorem blockA_ret {id : Nat} (h : Q .ret s) : blockA id Q .ret s := h
theorem blockA_hit {id id' : Nat} (hb : Nat.beq id' id = true) (h : Q .normal s) : blockA id Q (.exit id') s := by simp only [blockA, hb, cond_true]; exact h
theorem blockA_miss {id id' : Nat} (hb : Nat.beq id' id = false) (h : Q (.exit id') s) : blockA id Q (.exit id') s := by simp only [blockA, hb, cond_false]; exact h
theorem a_loop {σ : Type} {c : Code} (IM : σ → List AB) (IF : σ → List (Nat × AV)) (μ : σ → Nat) (x0 : σ) (h0 : Fits cx s ⟨IM x0, IF x0⟩)
    (round : ∀ x, AWp cx c ⟨IM x, IF x⟩ (thenA (fun s' => ∃ y, μ y < μ x ∧ Fits cx s' ⟨IM y, IF y⟩) Q)) : AWp cx (.loop c) s Q := awp_loop (fun x => ⟨IM x, IF x⟩) μ x0 h0 round
theorem awp_cond_t {c : Operand} {x y : Code} (hc : aval (look s.F) c = .val (.bool true)) (h : AWp cx x s Q) : AWp cx (.cond c x y) s Q := awp_cond hc (fun _ => h) (fun h => by cases h)
theorem awp_cond_f {c : Operand} {x y : Code} (hc : aval (look s.F) c = .val (.bool false)) (h : AWp cx y s Q) : AWp cx (.cond c x y) s Q := awp_cond hc (fun h => by cases h) (fun _ => h)
theorem awp_cond_p {c : Operand} {x y : Code} {p : Prop} [Decidable p] (hc : aval (look s.F) c = .val (.bool (decide p))) (ht : p → AWp cx x s Q) (hf : ¬ p → AWp cx y s Q) : AWp cx (.cond c x y) s Q :=
  awp_cond hc (fun h => ht (of_decide_eq_true h)) (fun h => hf (of_decide_eq_false h))
theorem awp_cond_n {c : Operand} {x y : Code} {p : Prop} [Decidable p] (hc : aval (look s.F) c = .val (.bool (!decide p))) (ht : ¬ p → AWp cx x s Q) (hf : p → AWp cx y s Q) : AWp cx (.cond c x y) s Q :=
  awp_cond hc (fun h => ht (by simpa using h)) (fun h => hf (by simpa using h))

theorem awp_cond_u {c : Operand} {x y : Code} {p q : Bool} (hc : aval (look s.F) c = .ub p q) (ht : p = true → AWp cx x s Q) (hf : q = true → AWp cx y s Q) : AWp cx (.cond c x y) s Q := by
  intro a w hs
  obtain ⟨h1, h2, β, h3, h4, h5⟩ := hs
  have hv := aval_sat (F := look s.F) h5 c
  rw [hc] at hv
  obtain ⟨b, hb, k1, k2⟩ := hv
  exact wpIn_cond_split hb (fun h => ht (k1 h) a w ⟨h1, h2, β, h3, h4, h5⟩) (fun h => hf (k2 h) a w ⟨h1, h2, β, h3, h4, h5⟩)
/-- Only these slots are remembered, and so written. -/
def keeps (F : List (Nat × AV)) : List (Nat × AV) → Prop
  | [] => True
  | (d, x) :: r => Sub (look F d) x ∧ keeps F r
theorem fits_of {M M' : List AB} {F F' : List (Nat × AV)} (hM : M = M') (hF : keeps F F') : Fits cx ⟨M, F⟩ ⟨M', F'⟩ := by
  subst hM
  rintro a w ⟨h1, h2, β, h3, h4, h5⟩
  refine ⟨h1, h2, β, h3, h4, fun d => ?_⟩
  have key : ∀ F' : List (Nat × AV), keeps F F' → AVsat M β w (immOf cx.S cx.w0.heap.size M β w) (look F' d) (a.tmps.getD d undef) := by
    intro F'
    induction F' with
    | nil => exact fun _ => trivial
    | cons p r ih =>
      obtain ⟨e, x⟩ := p
      rintro ⟨k1, k2⟩
      cases hb : Nat.beq e d with
      | true =>
        simp only [look, hb, cond_true]
        have := Nat.eq_of_beq_eq_true hb
        subst this
        exact k1 _ _ _ _ _ (h5 e)
      | false =>
        simp only [look, hb, cond_false]
        exact ih k2
  exact key F' hF
theorem Fits.refl (s : AS) : Fits cx s s := fun _ _ h => h
def nfF : List (Nat × AV) → Option (List (Nat × AV))
  | [] => some []
  | (d, x) :: r => match nf x, nfF r with
    | some y, some ys => some ((d, y) :: ys)
    | _, _ => none
theorem nfF_eq : ∀ {l m : List (Nat × AV)}, nfF l = some m → l = m
  | [], _, h => by cases h; rfl
  | (d, x) :: r, m, h => by
    simp only [nfF] at h
    split at h
    · rename_i y ys h1 h2
      cases h
      rw [nf_eq h1, nfF_eq h2]
    · cases h
/-- The start of a walk. -/
theorem p_start {P : Program} {f : FuncId} {fn : Func} {c : Code} {args : List AV} {res : AV} {N : Nat} {F : List (Nat × AV)} (hf : P.funcs[f]? = some fn) (hN : fn.ntmps = N) (hb : fn.body = some c) (hF : nfF (argF 0 args) = some F) (hok : Nat.ble args.length N = true)
    (h : ∀ S w, AWp ⟨P, N, S, w, [], noE, none⟩ c ⟨[], F⟩ (retQ P fn res)) : PCalls P f args res := pcalls_of hf hN hb (nfF_eq hF) hok h
theorem Sub.of_eq {x y : AV} (h : x = y) : Sub x y := by subst h; exact Sub.refl x
theorem ret1 {P : Program} {fn : Func} {res x : AV} {e : Exit} {M : List AB} {F : List (Nat × AV)} {t : Tmp} (he : e = .normal ∨ e = .ret) (hr : fn.results.toList = [.tmp t]) (hx : nf (look F t) = some x) (hf : x.free = true) (h : Sub x res) : retQ P fn res e ⟨M, F⟩ :=
  ⟨he, [x], by rw [hr]; exact .cons (.tmp (by rw [nf_eq hx]; exact Sub.refl _) hf) .nil, h⟩
theorem ret1_row {P : Program} {fn : Func} {res : AV} {e : Exit} {M : List AB} {F : List (Nat × AV)} {t : Tmp} {i ver E k : Nat} {es : List D} (he : e = .normal ∨ e = .ret) (hr : fn.results.toList = [.tmp t]) (hx : look F t = .row i ver) (hM : M[i]? = some (.row ver E k es)) (h : Sub (.sl k es) res) : retQ P fn res e ⟨M, F⟩ :=
  ⟨he, [.sl k es], by rw [hr]; exact .cons (.row hx hM) .nil, h⟩
theorem ret2 {P : Program} {fn : Func} {r1 r2 x y : AV} {e : Exit} {M : List AB} {F : List (Nat × AV)} {t u : Tmp} (he : e = .normal ∨ e = .ret) (hr : fn.results.toList = [.tmp t, .tmp u]) (hx : nf (look F t) = some x) (hy : nf (look F u) = some y)
    (hf : (x.free && y.free) = true) (h : Sub x r1) (k : Sub y r2) : retQ P fn (.tup [r1, r2]) e ⟨M, F⟩ := by
  rw [Bool.and_eq_true] at hf
  refine ⟨he, [x, y], by rw [hr]; exact .cons (.tmp (by rw [nf_eq hx]; exact Sub.refl _) hf.1) (.cons (.tmp (by rw [nf_eq hy]; exact Sub.refl _) hf.2) .nil), ?_⟩
  rintro M β w imm v ⟨cs, h1, ⟨v1, r, e1, s1, v2, r', e2, s2, s3⟩⟩
  exact ⟨cs, h1, v1, r, e1, h _ _ _ _ _ s1, v2, r', e2, k _ _ _ _ _ s2, s3⟩
theorem ret0 {P : Program} {fn : Func} {e : Exit} {M : List AB} {F : List (Nat × AV)} (he : e = .normal ∨ e = .ret) (hr : fn.results.toList = []) : retQ P fn (.tup []) e ⟨M, F⟩ :=
  ⟨he, [], by rw [hr]; exact .nil, Sub.refl _⟩
end

end Go.Proofs.Ytajbbcnfohbieaa
