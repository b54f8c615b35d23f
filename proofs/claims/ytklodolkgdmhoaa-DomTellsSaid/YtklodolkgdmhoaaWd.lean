import Derived.Test.YtklodolkgdmhoaaJa
/- The engine: the last part of an own row of words, cleared. -/
namespace Go.Proofs.Ytklodolkgdmhoaa
open Go Go.RowKit

def sfxV (j : Nat) : Nat → Option (Nat × Nat) → Nat → Value → Prop := fun k b n v => ∃ g c A, b = some (g, c) ∧ v = .slice A (n - j) (c - j) ∧ (j < n → A = some ⟨g, j * k, none⟩)
theorem mem_zeroCells1 {v : Value} (d : Nat) : (Builtin.zeroCells #[v] d).toList = List.replicate d v := by
  rw [List.eq_replicate_iff]
  constructor
  · simp [Builtin.zeroCells]
  · intro b hb
    simp only [Builtin.zeroCells, Array.toList_map, List.mem_map] at hb
    obtain ⟨i, _, rfl⟩ := hb
    have : i % #[v].size = 0 := by simp [Nat.mod_one]
    rw [this]; rfl
theorem denCs_replicate {w : World} {imm : Nat → Prop} {v : Value} (h : v.oneCell' = true) : ∀ d : Nat, DenCs w imm (List.replicate d (.val v)) (List.replicate d v)
  | 0 => rfl
  | d + 1 => by
    rw [List.replicate_succ, List.replicate_succ]
    exact DenCs.append (a := [.val v]) (x := [v]) ⟨[v], [], rfl, ⟨rfl, h⟩, rfl⟩ (denCs_replicate h d)
section
variable {P : Program} {o : Oper} {M M' : List AB} {ρ : Operand → AV} {out : AV} {tab : List (Nat × TE)}
theorem row_some {S : Nat → Prop} {B : Nat} {β : Env} {w : World} (hm : MemSat S B M β w) {i ver e k : Nat} {es : List D} (hM : M[i]? = some (.row ver e k es)) (hne : es ≠ []) :
    ∃ g c cs, β i = some (g, c) ∧ rowAt w g cs e ver (es.length * k) ∧ es.length ≤ c ∧ c ≤ maxLen ∧ cs.size = c * k ∧ DenCs w (immOf S B M β w) es (cs.toList.take (es.length * k)) := by
  obtain ⟨_, h | h⟩ := hm.ent i _ hM
  · exact absurd h.2 hne
  · exact h
theorem astep_sfx (ht : TyTab P tab) {T e i ver e' : Nat} {ee : TE} {x y : Operand} {q : IntKind} {a : Int} {es : List D} (ho : o.op = .slice T x (some y) none none) (hT : elemOf_ tab T = some (e, ee)) (hx : ρ x = .row i ver) (hM : M[i]? = some (.row ver e' ee.size es)) (hne : es ≠ [])
    (hy : ρ y = .val (.int q a)) (hb : 0 ≤ a ∧ a ≤ (es.length : Int)) : AStep P o M ρ M (.vw i ver (sfxV a.toNat)) :=
  .value fun S B β w0 w hm hs => by
    have h1 := hs x (by simp [ho, Op.operands])
    have h2 := hs y (by simp [ho, Op.operands])
    rw [hx] at h1; rw [hy] at h2
    have h2 : w0.eval y = .int q a := h2
    obtain ⟨k1, _⟩ := row_val hm hM h1
    obtain ⟨g, c, cs, b1, b2, b3, b4, b5, b6⟩ := row_some hm hM hne
    obtain ⟨hu', he⟩ := elemOf_spec ht hT
    obtain ⟨hu'', he'⟩ := elem_of hu'
    have hsz := run_sizeOf (P := P) (w := w) he
    rw [← he'] at hsz
    rw [b1] at k1
    have e := run_slice_l (P := P) w T (some ⟨g, 0, none⟩) es.length c hu'' q a hb.1 (by omega)
    refine ⟨sliced (some ⟨g, 0, none⟩) a.toNat es.length c ee.size, ?_, _, hM, Nat.le_refl _, fun _ => ⟨g, c, _, b1, rfl, fun hlt => ?_⟩⟩
    · simp only [execOp, ho, k1, rowVal, h2, Sem.run_bind, run_sliceAt_slice _ _ _ _ _ _ hu'']
      simp [h2, e, hsz]
    · rw [if_neg (by omega)]
      simp [addr_add]
/-- clear of a row's last part, of words of one cell. -/
theorem astep_clear_s (ht : TyTab P tab) {T e i ver j : Nat} {ee : TE} {x : Operand} {v : Value} {es : List D} (ho : o.op = .call { callee := .builtin .clear, args := #[x], argTypes := #[T] }) (hT : elemOf_ tab T = some (e, ee)) (hk : ee.size = 1) (hz : ee.zero = [v]) (hone' : v.oneCell' = true)
    (hx : ρ x = .vw i ver (sfxV j)) (hj : j < es.length) (hM : M[i]? = some (.row ver e ee.size es)) (hv : sealed ver = false) : AStep P o M ρ (M.set i (.row ver e ee.size (es.take j ++ List.replicate (es.length - j) (.val v)))) (.tup []) := by
  intro S B β w0 w hm hs K Q hK
  have hlt : i < M.length := (List.getElem?_eq_some_iff.1 hM).1
  have h1 := hs x (by simp [ho, Op.operands, Call.operands])
  rw [hx] at h1
  obtain ⟨ab1, e1, r1⟩ := h1
  rw [hM] at e1; cases e1
  obtain ⟨g, c, A, p1, p2, p4⟩ := r1.2 rfl
  have hA := p4 hj
  subst hA
  obtain ⟨hu, he⟩ := elemOf_spec ht hT
  obtain ⟨z, hz1, hz2⟩ := run_zeroCells (P := P) (w := w) he
  have hzz : z.cells = #[v] := by
    apply Array.toList_inj.1
    rw [hz2, hz]
  obtain ⟨hW, h | ⟨g', c2, cs, b1, ⟨fz, b2, b2'⟩, b3, b4, b5, b6⟩⟩ := hm.ent i _ hM
  · rw [p1] at h; cases h.1
  rw [p1] at b1; cases b1
  rw [hk] at b5 b6 p2 hW
  have hct : cs.toList.length = cs.size := Array.length_toList
  obtain ⟨d, hd⟩ : ∃ d, d = es.length - j := ⟨_, rfl⟩
  obtain ⟨zs, hzs'⟩ : ∃ zs, zs = (Builtin.zeroCells z.cells d).toList := ⟨_, rfl⟩
  have hze : zs = List.replicate d v := by rw [hzs', hzz, mem_zeroCells1]
  have hzl : zs.length = d := by rw [hze, List.length_replicate]
  have hone : ∀ u ∈ zs, u.oneCell' = true := fun u hu => by
    rw [hze] at hu
    rw [List.eq_of_mem_replicate hu]; exact hone'
  have hfit : j + zs.length ≤ cs.size := by rw [hzl]; omega
  have hst := run_storeCells_c P g j e fz zs 0 cs w b2 (fun j _ h => b2'.clear hv j h) (by simpa using hfit) hone
  simp only [Nat.add_zero] at hst
  obtain ⟨ns, hns⟩ : ∃ ns : List Value, ns = cs.toList.take j ++ zs ++ cs.toList.drop (j + zs.length) := ⟨_, rfl⟩
  rw [← hns] at hst
  have hnsl : ns.length = cs.size := by
    rw [hns]; simp only [List.length_append, List.length_take, List.length_drop, hct]; omega
  have hrun : (execOp w0.eval o).run P w = .ok (.value (.tuple #[])) (w.setRow g ns.toArray) := by
    obtain ⟨m, rfl⟩ : ∃ m, d = m + 1 := ⟨d - 1, by omega⟩
    simp only [execOp, ho, resolve, invoke, builtin]
    rw [hzs'] at hst
    simp [p2, Builtin.clear_, run_underlying hu, hz1, hst, ← hd]
  unfold Oper.wp
  rw [hrun]
  have hse : setE β i (some (g, c)) = β := by funext j; by_cases hj : j = i <;> simp [setE, hj, p1]
  have hel : (es.take j ++ List.replicate d (D.val v)).length = es.length := by
    rw [List.length_append, List.length_take, List.length_replicate]; omega
  have := hm.set_ (w' := w.setRow g ns.toArray) (ab' := .row ver e ee.size (es.take j ++ List.replicate d (.val v))) (x := some (g, c)) hM rfl rfl rfl rfl (by simp)
    (fun b' _ hne' => setRow_other w g b' _ (fun e => hne' c (by rw [p1, e]))) (fun g' c' h => by cases h; exact .inl ⟨c, p1⟩) ⟨Nat.le_refl _, rfl, fun _ => ⟨p1.symm, hel⟩⟩
    (fun hE => ⟨by
        rw [hk]
        intro y hy
        rcases List.mem_append.1 hy with hy | hy
        · exact hW y (List.mem_of_mem_take hy)
        · rw [List.eq_of_mem_replicate hy]; rfl, .inr ⟨g, c, _, rfl, ⟨fz, setRow_heap w g cs _ e _ b2, by
      rw [List.size_toArray, hnsl, hel]
      exact b2'⟩, by rw [hel]; exact b3, b4, by rw [List.size_toArray, hnsl, b5, hk], by
      have e2 : ns.take ((es.take j ++ List.replicate d (D.val v)).length * ee.size) = (cs.toList.take (es.length * 1)).take (j * 1) ++ List.replicate d v := by
        rw [hel, hk, Nat.mul_one, Nat.mul_one, List.take_take, Nat.min_eq_left (by omega), hns, hze]
        rw [List.take_append_of_le_length (by rw [List.length_append, List.length_take, List.length_replicate, hct]; omega)]
        rw [List.take_of_length_le (by rw [List.length_append, List.length_take, List.length_replicate, hct]; omega)]
      show DenCs _ _ _ (ns.take _)
      rw [e2]
      exact DenCs.mono (fun _ => immOf.ev hE) (fun _ off => immOf.cell hE off) _ _ ((b6.take_ hW).append (denCs_replicate hone' d))⟩⟩)
  rw [hse, hd] at this
  exact hK _ _ _ this.1 this.2 ⟨#[], rfl, rfl⟩
/-- An own row, cut at its end. -/
theorem astep_cut_row (ht : TyTab P tab) {T e i ver e' : Nat} {ee : TE} {es : List D} {x y : Operand} {q : IntKind} {n : Int} (ho : o.op = .slice T x none (some y) none) (hT : elemOf_ tab T = some (e, ee)) (hx : ρ x = .row i ver) (hM : M[i]? = some (.row ver e' ee.size es)) (hne : es ≠ [])
    (hy : ρ y = .val (.int q n)) (hv : sealed ver = false) {m : Nat} (hn : n = (m : Int)) (hb : m ≤ es.length) : AStep P o M ρ (M.set i (.row (ver + 2) e' ee.size (es.take m))) (.row i (ver + 2)) := by
  intro S B β a w hm hs K Q hK
  have hlt : i < M.length := (List.getElem?_eq_some_iff.1 hM).1
  have h1 := hs x (by simp [ho, Op.operands])
  have h2 := hs y (by simp [ho, Op.operands])
  rw [hx] at h1; rw [hy] at h2
  have h2 : a.eval y = .int q n := h2
  obtain ⟨k1, _⟩ := row_val hm hM h1
  obtain ⟨g, c, cs, b1, ⟨fz, b2, b2'⟩, b3, b4, b5, b6⟩ := row_some hm hM hne
  have hW := (hm.ent i _ hM).1
  rw [b1] at k1
  have k1 : a.eval x = .slice (some ⟨g, 0, none⟩) es.length c := k1
  obtain ⟨hu', he⟩ := elemOf_spec ht hT
  obtain ⟨hu'', he'⟩ := elem_of hu'
  have hsz := run_sizeOf (P := P) (w := w) he
  rw [← he'] at hsz
  have er := run_slice_h (P := P) w T (some ⟨g, 0, none⟩) es.length c hu'' q n (by omega) (by omega)
  have hnt : n.toNat = m := by omega
  have hrun : (execOp a.eval o).run P w = .ok (.value (.slice (some ⟨g, 0, none⟩) m c)) w := by
    simp only [execOp, ho, k1, Sem.run_bind, run_sliceAt_slice _ _ _ _ _ _ hu'']
    simp [h2, er, hsz, sliced, addr_add, hnt]
  unfold Oper.wp
  rw [hrun]
  have hlen : (es.take m).length = m := by rw [List.length_take, Nat.min_eq_left hb]
  have := hm.set_ (w' := w) (ab' := .row (ver + 2) e' ee.size (es.take m)) (x := β i) hM rfl rfl rfl rfl (Nat.le_refl _) (fun _ _ _ => rfl) (fun g c hc => .inl ⟨c, hc⟩) ⟨by omega, rfl, fun h => by omega⟩
    (fun hE => ⟨fun d hd => hW d (List.mem_of_mem_take hd), .inr ⟨g, c, cs, b1, ⟨fz, b2, (b2'.clear hv).ok hv⟩, by rw [hlen]; omega, b4, b5, by
      have h3 := (b6.take_ (i := m) hW)
      rw [List.take_take, Nat.min_eq_left (Nat.mul_le_mul_right _ hb)] at h3
      rw [hlen]
      exact DenCs.mono (fun _ => immOf.ev hE) (fun _ off => immOf.cell hE off) _ _ h3⟩⟩)
  refine hK _ _ w this.1 this.2 ⟨.row (ver + 2) e' ee.size (es.take m), by rw [List.getElem?_set_self hlt], Nat.le_refl _, fun _ => ?_⟩
  rw [setE_same, b1, hlen]
  rfl
end
end Go.Proofs.Ytklodolkgdmhoaa

/- The engine: pointers to data, held against nil. -/
namespace Go.Proofs.Ytklodolkgdmhoaa
open Go Go.RowKit

section
variable {P : Program} {o : Oper} {M M' : List AB} {ρ : Operand → AV} {out : AV} {tab : List (Nat × TE)}
theorem astep_eqnil_d {T U e : Nat} {l : List AV} {x y : Operand} (hT : P.underlying T = some (.pointer e)) (ho : o.op = .binOp .eql T x y U) (hx : ρ x = .dptr l) (hy : ρ y = .val (.pointer none)) : AStep P o M ρ M (.val (.bool false)) :=
  .value fun S B β a w _ hs => by
    have h1 := hs x (by simp [ho, Op.operands])
    have h2 := hs y (by simp [ho, Op.operands])
    rw [hx] at h1; rw [hy] at h2
    obtain ⟨g, off, _, h3, _⟩ := h1
    have h2 : a.eval y = .pointer none := h2
    have := run_eql_pointer_nil (P := P) w T (some ⟨g, off, none⟩) (ptr_of hT)
    exact ⟨.bool false, by simp [execOp, ho, h2, h3, eqGuard, this], rfl⟩
end
section
variable {P : Program} {ops : Array Oper} {N : Nat} {K : AS → Prop} {o : Oper} {r : List Oper} {fo fo' : Option (List Nat)} {M M' : List AB} {F : List (Nat × AV)} {dt : Tmp} {tab : List (Nat × TE)} {out : AV}
theorem r_by_cnd {j : Nat} {want c0 : Bool} {g : Tmp} {x : AV} (hs : c0 = true → AStep P o M (aval fun t => strip (look F t)) M x) (hg : o.guard = some (j, want)) (hj : dstOf ops j = some g) (hF : guardOf want (look F g) = some c0)
    (hcs : c0 = true → condsOf (look F) o.op.operands.toList = true) (hx : nf x = some out) (hdd : o.dst = some dt) (hd : dstB o.dst N = true) (hp : popF fo 1 = some fo') (k : RunX P ops N K r fo' M ((dt, .cnd c0 out) :: F)) : RunX P ops N K (o :: r) fo M F :=
  RunX.mk (fun _ k => Run.quiet hd (StepG.cnd hg hj hF hcs fun h => hs h) (by rw [put_eq hdd, nf_eq hx]; exact k)) hp k
end
theorem ret2ct {P : Program} {fn : Func} {r1 r2 x y : AV} {e : Exit} {M : List AB} {F : List (Nat × AV)} {t u : Tmp} {ty : TypeId} {te : TE} {i off e' : Nat} {cells : List AV} {tab : List (Nat × TE)} (ht : TyTab P tab) (he : e = .normal ∨ e = .ret) (hr : fn.results.toList = [.cell t ty, .tmp u]) (hte : tget tab ty = some te)
    (hp : look F t = .ptr i off) (hM : M[i]? = some (.box e' cells)) (hx : loadAV te (cells.drop off) = some x) (hy : nf (look F u) = some y) (hf : (x.free && y.free) = true) (h : Sub x r1) (k : Sub y r2) : retQ P fn (.tup [r1, r2]) e ⟨M, F⟩ := by
  rw [Bool.and_eq_true] at hf
  refine ⟨he, [x, y], by rw [hr]; exact .cons (.cell (ht.get hte) hp hM hx hf.1) (.cons (.tmp (by rw [nf_eq hy]; exact Sub.refl _) hf.2) .nil), ?_⟩
  rintro M β w imm v ⟨cs, h1, ⟨v1, r, e1, s1, v2, r', e2, s2, s3⟩⟩
  exact ⟨cs, h1, v1, r, e1, h _ _ _ _ _ s1, v2, r', e2, k _ _ _ _ _ s2, s3⟩
end Go.Proofs.Ytklodolkgdmhoaa

/- The engine: slices that are made, as own rows. -/
namespace Go.Proofs.Ytklodolkgdmhoaa
open Go Go.RowKit

section
variable {P : Program} {tab : List (Nat × TE)} {o : Oper} {M : List AB} {ρ : Operand → AV}
theorem astep_make_row (ht : TyTab P tab) {T e : Nat} {ee : TE} {x y : Operand} {k k' : IntKind} {n c : Int} {es : List D} (ho : o.op = .makeSlice T x y) (hT : elemOf_ tab T = some (e, ee)) (hx : ρ x = .val (.int k n)) (hy : ρ y = .val (.int k' c))
    (h0 : 0 ≤ n) (hnc : n ≤ c) (hb : (ee.bytes : Int) * c ≤ 281474976710656) (h63 : c ≤ 4611686018427387904) (hl : es.length = n.toNat) (hw : AllW ee.size es)
    (hd : ∀ (w : World) (imm : Nat → Prop) (z : Array Value), z.toList = ee.zero → DenCs w imm es ((madeCells z (c.toNat * ee.size)).toList.take (es.length * ee.size))) : AStep P o M ρ (M ++ [.row 0 e ee.size es]) (.row M.length 0) := by
  intro S B β a w hm hs' K Q hK
  obtain ⟨hu, he⟩ := elemOf_spec ht hT
  obtain ⟨dd, i, z, _, _, hi, h1, h2, hz1, hz2⟩ := teOf_spec he
  have e1 : a.eval x = .int k n := by have := hs' x (by simp [ho, Op.operands]); rw [hx] at this; exact this
  have e2 : a.eval y = .int k' c := by have := hs' y (by simp [ho, Op.operands]); rw [hy] at this; exact this
  have hr := Go.run_make (P := P) w T e i z hu hi hz1 k k' n c h0 hnc (by rw [h2]; exact hb) (by omega)
  rw [h1] at hr
  have hb' : Below w.heap.size w (w.alloc (.cells (madeCells z.cells (c.toNat * ee.size)) e)) := (Below.refl _ _).alloc (Nat.le_refl _) _
  have hrun : (execOp a.eval o).run P w = .ok (.value (.slice (some ⟨w.heap.size, 0, none⟩) n.toNat c.toNat)) (w.alloc (.cells (madeCells z.cells (c.toNat * ee.size)) e)) := by
    simp only [execOp, ho, e1, e2]
    rw [Sem.run_bind, hr]
    rfl
  obtain ⟨q1, q2⟩ := hm.push (ab := .row 0 e ee.size es) (x := some (w.heap.size, c.toNat)) hb' (fun g c h => by cases h; exact Nat.le_refl _)
    (fun hE => ⟨hw, .inr ⟨w.heap.size, c.toNat, _, rfl, .of0 (heap_alloc_new w _), by omega, by simp only [maxLen]; omega, by rw [size_madeCells], hd _ _ _ hz2⟩⟩)
  unfold Oper.wp
  rw [hrun]
  exact hK _ _ _ q1 q2 ⟨.row 0 e ee.size es, by simp, Nat.le_refl _, fun _ => by simp [rowVal, hl]⟩
/-- Words of one cell. -/
theorem made_words {z : Array Value} {v : Value} (hz : z.toList = [v]) (n : Nat) : (madeCells z n).toList = List.replicate n v := by
  have hz : z = #[v] := Array.toList_inj.1 hz
  subst hz
  rw [List.eq_replicate_iff]
  constructor
  · simp [madeCells]
  · intro b hb
    simp only [madeCells, Array.toList_map, List.mem_map] at hb
    obtain ⟨i, _, rfl⟩ := hb
    have : i % #[v].size = 0 := by simp [Nat.mod_one]
    rw [this]; rfl
theorem astep_make_words (ht : TyTab P tab) {T e : Nat} {ee : TE} {x y : Operand} {k k' : IntKind} {n : Nat} {v : Value} (ho : o.op = .makeSlice T x y) (hT : elemOf_ tab T = some (e, ee)) (hsz : ee.size = 1) (hz : ee.zero = [v]) (hv : v.oneCell' = true) (hx : ρ x = .val (.int k (n : Int))) (hy : ρ y = .val (.int k' (n : Int)))
    (hb : ee.bytes * n ≤ 281474976710656) (h63 : n ≤ 4611686018427387904) : AStep P o M ρ (M ++ [.row 0 e ee.size (List.replicate n (.val v))]) (.row M.length 0) := by
  refine astep_make_row ht ho hT hx hy (by omega) (Int.le_refl _) (by rw [← Int.natCast_mul]; omega) (by omega) (by rw [List.length_replicate]; rfl) (fun d hd => by rw [List.eq_of_mem_replicate hd, hsz]; rfl) (fun w imm z hz' => ?_)
  rw [made_words (by rw [hz', hz]), List.length_replicate, Int.toNat_natCast, List.take_replicate, Nat.min_self, hsz, Nat.mul_one]
  exact denCs_replicate hv n
theorem astep_make_none (ht : TyTab P tab) {T e : Nat} {ee : TE} {x y : Operand} {k k' : IntKind} {c : Nat} (ho : o.op = .makeSlice T x y) (hT : elemOf_ tab T = some (e, ee)) (hx : ρ x = .val (.int k 0)) (hy : ρ y = .val (.int k' (c : Int)))
    (hb : Nat.ble (ee.bytes * c) 281474976710656 = true) (h63 : Nat.ble c 4611686018427387904 = true) : AStep P o M ρ (M ++ [.row 0 e ee.size []]) (.row M.length 0) := by
  have hb := Nat.le_of_ble_eq_true hb
  have h63 := Nat.le_of_ble_eq_true h63
  refine astep_make_row (es := []) ht ho hT hx hy (Int.le_refl _) (by omega) (by rw [← Int.natCast_mul]; omega) (by omega) rfl (fun d hd => by cases hd) (fun w imm z hz' => ?_)
  rw [List.length_nil, Nat.zero_mul, List.take_zero]
  rfl
end
end Go.Proofs.Ytklodolkgdmhoaa
