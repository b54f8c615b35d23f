import Derived.Test.YtfmafehogfikmaaGreatDoorJa
/- The engine: the last part of an own row of words, cleared. -/
namespace Go.Proofs.YtfmafehogfikmaaGreatDoor
open Go Go.RowKit

def sfxV (j : Nat) : Nat → Option (Nat × Nat) → Nat → Value → Prop := fun k b n v => ∃ g c A, b = some (g, c) ∧ v = .slice A (n - j) (c - j) ∧ (j < n → A = some ⟨g, j * k, none⟩)
theorem denCs_replicate {w : World} {imm : Nat → Prop} {v : Value} (h : v.oneCell' = true) : ∀ d : Nat, DenCs w imm (List.replicate d (.val v)) (List.replicate d v)
  | 0 => rfl
  | d + 1 => by
    rw [List.replicate_succ, List.replicate_succ]
    exact DenCs.append (a := [.val v]) (x := [v]) ⟨[v], [], rfl, ⟨rfl, h⟩, rfl⟩ (denCs_replicate h d)
section
variable {P : Program} {o : Oper} {M M' : List AB} {ρ : Operand → AV} {out : AV} {tab : List (Nat × TE)}
theorem row_some {S : Nat → Prop} {B : Nat} {β : Env} {w : World} (hm : MemSat S B M β w) {i ver e k : Nat} {es : List D} (hM : M[i]? = some (.row ver e k es)) (hne : es ≠ []) :
    ∃ g c cs, β i = some (g, c) ∧ rowAt w g cs e ver (es.length * k) ∧ es.length ≤ c ∧ c ≤ maxLen ∧ cs.size = c * k ∧ DenCs w (immOf S B M β w) es (cs.toList.take (es.length * k)) := by
  obtain ⟨_, h | h⟩ := hm.ent i _ hM
  · exact absurd h.2 hne
  · exact h
theorem astep_sfx (ht : TyTab P tab) {T e i ver e' : Nat} {ee : TE} {x y : Operand} {q : IntKind} {a : Int} {es : List D} (ho : o.op = .slice T x (some y) none none) (hT : uX tab T = some (e, ee)) (hx : ρ x = .row i ver) (hM : M[i]? = some (.row ver e' ee.size es)) (hne : es ≠ [])
    (hy : ρ y = .val (.int q a)) (hb : 0 ≤ a ∧ a ≤ (es.length : Int)) : AStep P o M ρ M (.vw i ver (sfxV a.toNat)) :=
  .value fun S B β w0 w hm hs => by
    have h1 := hs x (by simp [ho, Op.operands])
    have h2 := hs y (by simp [ho, Op.operands])
    rw [hx] at h1; rw [hy] at h2
    have h2 : w0.eval y = .int q a := h2
    obtain ⟨k1, _⟩ := zk hm hM h1
    obtain ⟨g, c, cs, b1, b2, b3, b4, b5, b6⟩ := row_some hm hM hne
    obtain ⟨hu', he⟩ := vq ht hT
    obtain ⟨hu'', he'⟩ := elem_of hu'
    have hsz := vP (P := P) (w := w) he
    rw [← he'] at hsz
    rw [b1] at k1
    have e := run_slice_l (P := P) w T (some ⟨g, 0, none⟩) es.length c hu'' q a hb.1 (by omega)
    refine ⟨sliced (some ⟨g, 0, none⟩) a.toNat es.length c ee.size, ?_, _, hM, Nat.le_refl _, fun _ => ⟨g, c, _, b1, rfl, fun hlt => ?_⟩⟩
    · simp only [execOp, ho, k1, wU, h2, Sem.run_bind, run_sliceAt_slice _ _ _ _ _ _ hu'']
      simp [h2, e, hsz]
    · rw [if_neg (by omega)]
      simp [wX]
/-- An own row, cut at its end. -/
theorem astep_cut_row (ht : TyTab P tab) {T e i ver e' : Nat} {ee : TE} {es : List D} {x y : Operand} {q : IntKind} {n : Int} (ho : o.op = .slice T x none (some y) none) (hT : uX tab T = some (e, ee)) (hx : ρ x = .row i ver) (hM : M[i]? = some (.row ver e' ee.size es)) (hne : es ≠ [])
    (hy : ρ y = .val (.int q n)) (hv : wB ver = false) {m : Nat} (hn : n = (m : Int)) (hb : m ≤ es.length) : AStep P o M ρ (M.set i (.row (ver + 2) e' ee.size (es.take m))) (.row i (ver + 2)) := by
  intro S B β a w hm hs K Q hK
  have hlt : i < M.length := (List.getElem?_eq_some_iff.1 hM).1
  have h1 := hs x (by simp [ho, Op.operands])
  have h2 := hs y (by simp [ho, Op.operands])
  rw [hx] at h1; rw [hy] at h2
  have h2 : a.eval y = .int q n := h2
  obtain ⟨k1, _⟩ := zk hm hM h1
  obtain ⟨g, c, cs, b1, ⟨fz, b2, b2'⟩, b3, b4, b5, b6⟩ := row_some hm hM hne
  have hW := (hm.ent i _ hM).1
  rw [b1] at k1
  have k1 : a.eval x = .slice (some ⟨g, 0, none⟩) es.length c := k1
  obtain ⟨hu', he⟩ := vq ht hT
  obtain ⟨hu'', he'⟩ := elem_of hu'
  have hsz := vP (P := P) (w := w) he
  rw [← he'] at hsz
  have er := run_slice_h (P := P) w T (some ⟨g, 0, none⟩) es.length c hu'' q n (by omega) (by omega)
  have hnt : n.toNat = m := by omega
  have hrun : (execOp a.eval o).run P w = .ok (.value (.slice (some ⟨g, 0, none⟩) m c)) w := by
    simp only [execOp, ho, k1, Sem.run_bind, run_sliceAt_slice _ _ _ _ _ _ hu'']
    simp [h2, er, hsz, sliced, wX, hnt]
  unfold Oper.wp
  rw [hrun]
  have hlen : (es.take m).length = m := by rw [List.length_take, Nat.min_eq_left hb]
  have := hm.set_ (w' := w) (ab' := .row (ver + 2) e' ee.size (es.take m)) (x := β i) hM rfl rfl rfl rfl (Nat.le_refl _) (fun _ _ _ => rfl) (fun g c hc => .inl ⟨c, hc⟩) ⟨by omega, rfl, fun h => by omega⟩
    (fun hE => ⟨fun d hd => hW d (List.mem_of_mem_take hd), .inr ⟨g, c, cs, b1, ⟨fz, b2, (b2'.clear hv).ok hv⟩, by rw [hlen]; omega, b4, b5, by
      have h3 := (b6.take_ (i := m) hW)
      rw [List.take_take, Nat.min_eq_left (Nat.mul_le_mul_right _ hb)] at h3
      rw [hlen]
      exact DenCs.mono (fun _ => immOf.ev hE) (fun _ off => immOf.cell hE off) _ _ h3⟩⟩)
  refine hK _ _ w this.1 this.2 ⟨.row (ver + 2) e' ee.size (es.take m), by rw [List.getElem?_set_self hlt], Nat.le_refl _, fun _ => ?_⟩
  rw [wg, b1, hlen]
  rfl
end
end Go.Proofs.YtfmafehogfikmaaGreatDoor

/- The engine: pointers to data, held against nil. -/
namespace Go.Proofs.YtfmafehogfikmaaGreatDoor
open Go Go.RowKit

section
variable {P : Program} {o : Oper} {M M' : List AB} {ρ : Operand → AV} {out : AV} {tab : List (Nat × TE)}
end
section
variable {P : Program} {ops : Array Oper} {N : Nat} {K : AS → Prop} {o : Oper} {r : List Oper} {fo fo' : Option (List Nat)} {M M' : List AB} {F : List (Nat × AV)} {dt : Tmp} {tab : List (Nat × TE)} {out : AV}
end
theorem vU {P : Program} {fn : Func} {r1 r2 x y : AV} {e : Exit} {M : List AB} {F : List (Nat × AV)} {t u : Tmp} {ty : TypeId} {te : TE} {i off e' : Nat} {cells : List AV} {tab : List (Nat × TE)} (ht : TyTab P tab) (he : e = .normal ∨ e = .ret) (hr : fn.results.toList = [.cell t ty, .tmp u]) (hte : wv tab ty = some te)
    (hp : uH F t = .ptr i off) (hM : M[i]? = some (.box e' cells)) (hx : xA te (cells.drop off) = some x) (hy : nf (uH F u) = some y) (hf : (x.free && y.free) = true) (h : Sub x r1) (k : Sub y r2) : retQ P fn (.tup [r1, r2]) e ⟨M, F⟩ := by
  rw [Bool.and_eq_true] at hf
  refine ⟨he, [x, y], by rw [hr]; exact .cons (.cell (ht.get hte) hp hM hx hf.1) (.cons (.tmp (by rw [wV hy]; exact Sub.refl _) hf.2) .nil), ?_⟩
  rintro M β w imm v ⟨cs, h1, ⟨v1, r, e1, s1, v2, r', e2, s2, s3⟩⟩
  exact ⟨cs, h1, v1, r, e1, h _ _ _ _ _ s1, v2, r', e2, k _ _ _ _ _ s2, s3⟩
end Go.Proofs.YtfmafehogfikmaaGreatDoor

/- The engine: slices that are made, as own rows. -/
namespace Go.Proofs.YtfmafehogfikmaaGreatDoor
open Go Go.RowKit

section
variable {P : Program} {tab : List (Nat × TE)} {o : Oper} {M : List AB} {ρ : Operand → AV}
theorem astep_make_row (ht : TyTab P tab) {T e : Nat} {ee : TE} {x y : Operand} {k k' : IntKind} {n c : Int} {es : List D} (ho : o.op = .makeSlice T x y) (hT : uX tab T = some (e, ee)) (hx : ρ x = .val (.int k n)) (hy : ρ y = .val (.int k' c))
    (h0 : 0 ≤ n) (hnc : n ≤ c) (hb : (ee.bytes : Int) * c ≤ 281474976710656) (h63 : c ≤ 4611686018427387904) (hl : es.length = n.toNat) (hw : qi ee.size es)
    (hd : ∀ (w : World) (imm : Nat → Prop) (z : Array Value), z.toList = ee.zero → DenCs w imm es ((madeCells z (c.toNat * ee.size)).toList.take (es.length * ee.size))) : AStep P o M ρ (M ++ [.row 0 e ee.size es]) (.row M.length 0) := by
  intro S B β a w hm hs' K Q hK
  obtain ⟨hu, he⟩ := vq ht hT
  obtain ⟨dd, i, z, _, _, hi, h1, h2, hz1, hz2⟩ := vS he
  have e1 : a.eval x = .int k n := by have := hs' x (by simp [ho, Op.operands]); rw [hx] at this; exact this
  have e2 : a.eval y = .int k' c := by have := hs' y (by simp [ho, Op.operands]); rw [hy] at this; exact this
  have hr := Go.run_make (P := P) w T e i z hu hi hz1 k k' n c h0 hnc (by rw [h2]; exact hb) (by omega)
  rw [h1] at hr
  have hb' : Below w.heap.size w (w.alloc (.cells (madeCells z.cells (c.toNat * ee.size)) e)) := (Below.refl _ _).alloc (Nat.le_refl _) _
  have hrun : (execOp a.eval o).run P w = .ok (.value (.slice (some ⟨w.heap.size, 0, none⟩) n.toNat c.toNat)) (w.alloc (.cells (madeCells z.cells (c.toNat * ee.size)) e)) := by
    simp only [execOp, ho, e1, e2]
    rw [Sem.run_bind, hr]
    rfl
  obtain ⟨q1, q2⟩ := hm.push (ab := .row 0 e ee.size es) (x := some (w.heap.size, c.toNat)) hb' (fun g c h => by cases h; exact Nat.le_refl _)
    (fun hE => ⟨hw, .inr ⟨w.heap.size, c.toNat, _, rfl, .of0 (heap_alloc_new w _), by omega, by simp only [maxLen]; omega, by rw [size_madeCells], hd _ _ _ hz2⟩⟩)
  unfold Oper.wp
  rw [hrun]
  exact hK _ _ _ q1 q2 ⟨.row 0 e ee.size es, by simp, Nat.le_refl _, fun _ => by simp [wU, hl]⟩
/-- Words of one cell. -/
theorem made_words {z : Array Value} {v : Value} (hz : z.toList = [v]) (n : Nat) : (madeCells z n).toList = List.replicate n v := by
  have hz : z = #[v] := Array.toList_inj.1 hz
  subst hz
  rw [List.eq_replicate_iff]
  constructor
  · simp [madeCells]
  · intro b hb
    simp only [madeCells, Array.toList_map, List.mem_map] at hb
    obtain ⟨i, _, rfl⟩ := hb
    have : i % #[v].size = 0 := by simp [Nat.mod_one]
    rw [this]; rfl
theorem astep_make_words (ht : TyTab P tab) {T e : Nat} {ee : TE} {x y : Operand} {k k' : IntKind} {n : Nat} {v : Value} (ho : o.op = .makeSlice T x y) (hT : uX tab T = some (e, ee)) (hsz : ee.size = 1) (hz : ee.zero = [v]) (hv : v.oneCell' = true) (hx : ρ x = .val (.int k (n : Int))) (hy : ρ y = .val (.int k' (n : Int)))
    (hb : ee.bytes * n ≤ 281474976710656) (h63 : n ≤ 4611686018427387904) : AStep P o M ρ (M ++ [.row 0 e ee.size (List.replicate n (.val v))]) (.row M.length 0) := by
  refine astep_make_row ht ho hT hx hy (by omega) (Int.le_refl _) (by rw [← Int.natCast_mul]; omega) (by omega) (by rw [List.length_replicate]; rfl) (fun d hd => by rw [List.eq_of_mem_replicate hd, hsz]; rfl) (fun w imm z hz' => ?_)
  rw [made_words (by rw [hz', hz]), List.length_replicate, Int.toNat_natCast, List.take_replicate, Nat.min_self, hsz, Nat.mul_one]
  exact denCs_replicate hv n
end
end Go.Proofs.YtfmafehogfikmaaGreatDoor
