/- The engine, part 19: strings: iterators, runes, bytes; own rows' elements; cuts. -/
import Derived.Test.YtajbbcnfohbieaaV
import Derived.Lib.OthersKept
import Derived.Lib.AppendStr
import Derived.Laws.Cover4
import Derived.Laws.Slices
namespace Go.Proofs.Ytajbbcnfohbieaa
open Go Go.RowKit

def bD (b : UInt8) : D := .val (.int .u8 (b.toNat : Int))
def rD (n : Int) : D := .val (.int .i32 n)
theorem bD_all (l : List UInt8) : AllW 1 (l.map bD) := fun d hd => by
  obtain ⟨b, _, rfl⟩ := List.mem_map.1 hd
  rfl
theorem rD_all (l : List Int) : AllW 1 (l.map rD) := fun d hd => by
  obtain ⟨b, _, rfl⟩ := List.mem_map.1 hd
  rfl
theorem DenCs_bytes (w : World) (imm : Nat → Prop) : ∀ l : List UInt8, DenCs w imm (l.map bD) (l.map fun b => Value.int .u8 b.toNat)
  | [] => rfl
  | b :: l => ⟨[.int .u8 b.toNat], l.map fun b => Value.int .u8 b.toNat, rfl, ⟨rfl, rfl⟩, DenCs_bytes w imm l⟩
theorem DenCs_bytes_eq {w : World} {imm : Nat → Prop} : ∀ {l : List UInt8} {cs : List Value}, DenCs w imm (l.map bD) cs → cs = l.map fun b => Value.int .u8 b.toNat
  | [], cs, h => h
  | b :: l, cs, ⟨c1, c2, h1, h2, h3⟩ => by rw [h1, h2.1, DenCs_bytes_eq h3]; rfl
theorem DenCs_runes_eq {w : World} {imm : Nat → Prop} : ∀ {l : List Int} {cs : List Value}, DenCs w imm (l.map rD) cs → cs = l.map (Value.int .i32)
  | [], cs, h => h
  | b :: l, cs, ⟨c1, c2, h1, h2, h3⟩ => by rw [h1, h2.1, DenCs_runes_eq h3]; rfl

section
variable {P : Program} {o : Oper} {M M' : List AB} {ρ : Operand → AV} {out : AV} {tab : List (Nat × TE)}

theorem astep_range (ht : TyTab P tab) {T : Nat} {x : Operand} {s : ByteArray} (ho : o.op = .range T x) (hT : kindAt tab T = some .str) (hx : ρ x = .val (.string s)) : AStep P o M ρ (M ++ [.iter s 0]) (.ptr M.length 0) := by
  intro S B β a w hm hs K Q hK
  have h1 := hs x (by simp [ho, Op.operands])
  rw [hx] at h1
  have h1 : a.eval x = .string s := h1
  have hrun : (execOp a.eval o).run P w = .ok (.value (.pointer (some ⟨w.heap.size, 0, none⟩))) (w.iter s 0) := by
    simp [execOp, ho, h1, run_range_string w T s (kindAt_str ht hT)]
  obtain ⟨e1, e2⟩ := hm.push (ab := .iter s 0) (x := some (w.heap.size, 0)) (w' := w.iter s 0) ((Below.refl _ _).alloc (Nat.le_refl _) _) (fun g c h => by cases h; exact Nat.le_refl _) (fun _ => ⟨w.heap.size, 0, rfl, w.iter_heap s 0⟩)
  unfold Oper.wp
  rw [hrun]
  exact hK _ _ _ e1 e2 ⟨w.heap.size, 0, by simp, rfl, .iter s 0, by simp, rfl⟩

theorem astep_next {x : Operand} {i pos : Nat} {s : ByteArray} (ho : o.op = .next x true) (hx : ρ x = .ptr i 0) (hM : M[i]? = some (.iter s pos)) (hp : pos < s.size) :
    AStep P o M ρ (M.set i (.iter s (pos + (Utf8.decode s pos).2))) (.tup [.val (.bool true), .val (.int .i64 pos), .val (.int .i32 (Utf8.decode s pos).1)]) := by
  intro S B β a w hm hs K Q hK
  have h1 := hs x (by simp [ho, Op.operands])
  rw [hx] at h1
  obtain ⟨g, c, h3, h4, _⟩ := h1
  obtain ⟨g', c', h5, h6⟩ := hm.ent i _ hM
  rw [h3] at h5; cases h5
  have hrun : (execOp a.eval o).run P w = .ok (.value (.tuple #[.bool true, .int .i64 pos, .int .i32 (Utf8.decode s pos).1])) (w.iterAt g s (pos + (Utf8.decode s pos).2)) := by
    simp [execOp, ho, h4, Lib.run_next_any_at w g s pos o.type h6 hp]
  have hs' : setE β i (some (g, c)) = β := by funext j; by_cases hj : j = i <;> simp [setE, hj, h3]
  have := hm.set_ (w' := w.iterAt g s (pos + (Utf8.decode s pos).2)) (ab' := .iter s (pos + (Utf8.decode s pos).2)) (x := some (g, c)) hM rfl rfl rfl rfl (by rw [Lib.iterAt_size]; exact Nat.le_refl _)
    (fun b _ hne => Lib.iterAt_other w g b s _ (fun e => hne c (by rw [h3, e]))) (fun g' c' h => by cases h; exact .inl ⟨c, h3⟩) ⟨rfl, h3.symm⟩ (fun _ => ⟨g, c, rfl, Lib.iterAt_heap w g s pos _ h6⟩)
  rw [hs'] at this
  unfold Oper.wp
  rw [hrun]
  exact hK _ _ _ this.1 this.2 ⟨_, rfl, _, _, rfl, rfl, _, _, rfl, rfl, _, _, rfl, rfl, rfl⟩

theorem astep_next_end {x : Operand} {i pos : Nat} {s : ByteArray} (ho : o.op = .next x true) (hx : ρ x = .ptr i 0) (hM : M[i]? = some (.iter s pos)) (hp : ¬ pos < s.size) :
    AStep P o M ρ M (.tup [.val (.bool false)]) :=
  .value fun S B β a w hm hs => by
    have h1 := hs x (by simp [ho, Op.operands])
    rw [hx] at h1
    obtain ⟨g, c, h3, h4, _⟩ := h1
    obtain ⟨g', c', h5, h6⟩ := hm.ent i _ hM
    rw [h3] at h5; cases h5
    exact ⟨_, by simp [execOp, ho, h4, Lib.run_next_end_at w g s pos o.type h6 hp], _, rfl, _, _, rfl, rfl, rfl⟩

/-- A pointer that is none but nil. -/
def isPtr : AV → Bool
  | .ptr _ _ => true
  | .dptr _ => true
  | _ => false
theorem astep_nilCheck {x : Operand} (ho : o.op = .nilCheck x) (hx : isPtr (ρ x) = true) : AStep P o M ρ M (ρ x) :=
  .value fun S B β a w hm hs => by
    have h1 := hs x (by simp [ho, Op.operands])
    refine ⟨a.eval x, ?_, h1⟩
    cases hv : ρ x with
    | ptr i off =>
      rw [hv] at h1
      obtain ⟨g, c, _, h2, _⟩ := h1
      simp [execOp, ho, h2]
    | dptr l =>
      rw [hv] at h1
      obtain ⟨g, off, cs, h2, _⟩ := h1
      simp [execOp, ho, h2]
    | _ => rw [hv] at hx; cases hx

/-- A rune as a string; runes; bytes. -/
theorem astep_rune_str (ht : TyTab P tab) {T U : Nat} {x : Operand} {k : IntKind} {n : Int} {tk : TK} (ho : o.op = .convert T U x) (hT : kindAt tab T = some tk) (hU : kindAt tab U = some .str) (hx : ρ x = .val (.int k n)) : AStep P o M ρ M (.val (.string (Utf8.encode n))) :=
  .value fun S B β a w _ hs => by
    have h1 := hs x (by simp [ho, Op.operands])
    rw [hx] at h1
    have h1 : a.eval x = .int k n := h1
    obtain ⟨d, hd, _⟩ := kindAt_spec ht hT
    have := run_convert_int_string (P := P) w T U k n (by rw [hd]; rfl) (kindAt_str ht hU)
    exact ⟨_, by simp [execOp, ho, h1, this], rfl⟩
theorem astep_runes_str (ht : TyTab P tab) {T U e : Nat} {ee : TE} {x : Operand} {l : List Int} (ho : o.op = .convert T U x) (hT : elemOf_ tab T = some (e, ee)) (he : kindAt tab e = some (.int .i32)) (hU : kindAt tab U = some .str)
    (hx : ρ x = .sl 1 (l.map rD)) : AStep P o M ρ M (.val (.string (runesBytes l))) :=
  .value fun S B β a w _ hs => by
    have h1 := hs x (by simp [ho, Op.operands])
    rw [hx] at h1
    obtain ⟨A, n, c, rows, s1, s2, s3, s4, s5, s6, s7⟩ := src_of h1
    have hcv := run_convert_runes_string (P := P) w T U e A n c (elemOf_spec ht hT).1 (kindAt_int ht he) (kindAt_str ht hU)
    have hrows := DenCs_runes_eq s4
    rw [List.length_map] at s2
    cases A with
    | none =>
      have h0 : l = [] := by
        refine List.eq_nil_of_length_eq_zero ?_
        rcases Nat.eq_zero_or_pos n with h | h
        · omega
        · obtain ⟨ad, h'⟩ := s6 h; cases h'
      subst h0
      refine ⟨_, ?_, rfl⟩
      simp only [execOp, ho, s1]
      simp only [Sem.run_bind, hcv]
      rfl
    | some ad =>
      have hl := run_loadCells_list (P := P) (w := w) ad rows (s7 ad rfl)
      rw [s5, Nat.mul_one, hrows] at hl
      have hr := run_runesToString (P := P) w ad n c l hl
      refine ⟨_, ?_, rfl⟩
      simp only [execOp, ho, s1]
      simp only [Sem.run_bind, hcv, hr]
      rfl
theorem bytesStr_bytes (l : List UInt8) : bytesStr (l.map fun b => (b.toNat : Int)) = ⟨l.toArray⟩ := by
  simp [bytesStr, Function.comp_def]
theorem astep_bytes_str' (ht : TyTab P tab) {T U e : Nat} {ee : TE} {x : Operand} {l : List UInt8} (ho : o.op = .convert T U x) (hT : elemOf_ tab T = some (e, ee)) (he : kindAt tab e = some (.int .u8)) (hU : kindAt tab U = some .str)
    (hx : ρ x = .sl 1 (l.map bD)) : AStep P o M ρ M (.val (.string ⟨l.toArray⟩)) := by
  have := astep_bytes_str (P := P) (M := M) (ρ := ρ) (o := o) (ns := l.map fun b => (b.toNat : Int)) ht ho hT he hU (by rw [hx, List.map_map]; rfl)
  rwa [bytesStr_bytes] at this
theorem astep_row_str (ht : TyTab P tab) {T U e i ver e' : Nat} {ee : TE} {x : Operand} {l : List UInt8} (ho : o.op = .convert T U x) (hT : elemOf_ tab T = some (e, ee)) (he : kindAt tab e = some (.int .u8)) (hU : kindAt tab U = some .str)
    (hx : ρ x = .row i ver) (hM : M[i]? = some (.row ver e' 1 (l.map bD))) : AStep P o M ρ M (.val (.string ⟨l.toArray⟩)) :=
  .value fun S B β a w hm hs => by
    have h1 := hs x (by simp [ho, Op.operands])
    rw [hx] at h1
    have h2 : DenC w (fun b => immOf S B M β w b ∨ live M β b) (.sl 1 (l.map bD)) [a.eval x] := row_as_sl hm (fun b h => .inl h) (fun b h => .inr h) hM h1
    obtain ⟨A, n, c, rows, s1, s2, s3, s4, s5, s6, s7⟩ := src_of h2
    have hcv := run_convert_bytes_string (P := P) w T U e A n c (elemOf_spec ht hT).1 (kindAt_int ht he) (kindAt_str ht hU)
    have hrows := DenCs_bytes_eq s4
    rw [List.length_map] at s2
    cases A with
    | none =>
      have h0 : l = [] := by
        refine List.eq_nil_of_length_eq_zero ?_
        rcases Nat.eq_zero_or_pos n with h | h
        · omega
        · obtain ⟨ad, h'⟩ := s6 h; cases h'
      subst h0
      refine ⟨_, ?_, rfl⟩
      simp only [execOp, ho, s1]
      simp only [Sem.run_bind, hcv]
      simp [Conv.bytesToString]
      rfl
    | some ad =>
      have hl := run_loadCells_list (P := P) (w := w) ad rows (s7 ad rfl)
      have hrows' : rows = (l.map fun b => (b.toNat : Int)).map (Value.int .u8) := by rw [hrows, List.map_map]; rfl
      rw [s5, Nat.mul_one, hrows'] at hl
      have hr := run_bytesToString (P := P) w ad n c _ hl
      refine ⟨.string ⟨l.toArray⟩, ?_, rfl⟩
      simp only [execOp, ho, s1]
      simp only [Sem.run_bind, hcv, hr, foldl_bytes]
      simp [Function.comp_def]

/-- A string's bytes: an own row. -/
theorem bytesRow_take (s : ByteArray) (cap : Nat) : (bytesRow s cap).toList.take (s.data.toList.length * 1) = s.data.toList.map fun b => Value.int .u8 b.toNat := by
  unfold bytesRow
  rw [Array.toList_append, List.take_append_of_le_length (by simp)]
  rw [List.take_of_length_le (by simp)]
  simp
theorem str_size (s : ByteArray) : s.data.toList.length = s.size := Array.length_toList
theorem clear_end (n : Nat) : clear (n, n + 1) n := fun j hj => by
  have h : ¬ n ≤ j := by omega
  simp [h]
theorem astep_str_bytes (ht : TyTab P tab) {T U e : Nat} {ee : TE} {x : Operand} {s : ByteArray} (ho : o.op = .convert T U x) (hT : kindAt tab T = some .str) (hU : elemOf_ tab U = some (e, ee)) (he : kindAt tab e = some (.int .u8)) (hx : ρ x = .val (.string s)) (hb : s.size ≤ 9223372036854775807) :
    AStep P o M ρ (M ++ [.row 0 e 1 (s.data.toList.map bD)]) (.row M.length 0) := by
  intro S B β a w hm hs K Q hK
  have h1 := hs x (by simp [ho, Op.operands])
  rw [hx] at h1
  have h1 : a.eval x = .string s := h1
  have hr := run_bytes_of_string (P := P) w T U e s (kindAt_str ht hT) (elemOf_spec ht hU).1 (kindAt_int ht he)
  have hge := grownCap_ge w s.size 0 e
  have hle := grownCap_le_maxLen w s.size 0 e (by simp only [maxLen]; omega)
  have hsz : (bytesRow s (grownCap w s.size 0 e)).size = grownCap w s.size 0 e := by
    have := str_size s
    simp only [bytesRow, Array.size_append, Array.size_map, Array.size_replicate]
    have h : s.data.size = s.size := rfl
    omega
  have hbel : Below w.heap.size w (w.drew.alloc (.cells (bytesRow s (grownCap w s.size 0 e)) e ((bytesRow s (grownCap w s.size 0 e)).size, (bytesRow s (grownCap w s.size 0 e)).size + 1))) :=
    ⟨rfl, rfl, rfl, by simp, fun k hk => heap_alloc_old w.drew _ hk⟩
  have hfit : ∀ imm, EntSat (M ++ [.row 0 e 1 (s.data.toList.map bD)]) (setE β M.length (some (w.heap.size, grownCap w s.size 0 e))) (w.drew.alloc (.cells (bytesRow s (grownCap w s.size 0 e)) e ((bytesRow s (grownCap w s.size 0 e)).size, (bytesRow s (grownCap w s.size 0 e)).size + 1))) imm (some (w.heap.size, grownCap w s.size 0 e)) (.row 0 e 1 (s.data.toList.map bD)) := by
    intro imm
    refine ⟨bD_all _, .inr ⟨w.heap.size, _, _, rfl, ⟨_, heap_alloc_new w.drew _, clear_end _⟩, ?_, hle, by rw [hsz, Nat.mul_one], ?_⟩⟩
    · rw [List.length_map, str_size]; exact hge
    · rw [List.length_map, bytesRow_take]; exact DenCs_bytes _ _ _
  obtain ⟨e1, e2⟩ := hm.push (ab := .row 0 e 1 (s.data.toList.map bD)) (x := some (w.heap.size, grownCap w s.size 0 e)) hbel (fun g c h => by cases h; exact Nat.le_refl _) (fun _ => hfit _)
  have hrun : (execOp a.eval o).run P w = .ok (.value (.slice (some ⟨w.heap.size, 0, none⟩) s.size (grownCap w s.size 0 e))) (w.drew.alloc (.cells (bytesRow s (grownCap w s.size 0 e)) e ((bytesRow s (grownCap w s.size 0 e)).size, (bytesRow s (grownCap w s.size 0 e)).size + 1))) := by
    simp only [execOp, ho, h1]
    simp only [Sem.run_bind, hr]
    rfl
  unfold Oper.wp
  rw [hrun]
  refine hK _ _ _ e1 e2 ⟨.row 0 e 1 (s.data.toList.map bD), by simp, Nat.le_refl _, fun _ => ?_⟩
  rw [setE_same, List.length_map, str_size]
  rfl
/-- A string's bytes: data. -/
theorem astep_str_data (ht : TyTab P tab) {T U e : Nat} {ee : TE} {x : Operand} {s : ByteArray} (ho : o.op = .convert T U x) (hT : kindAt tab T = some .str) (hU : elemOf_ tab U = some (e, ee)) (he : kindAt tab e = some (.int .u8)) (hx : ρ x = .val (.string s)) (hb : s.size ≤ 9223372036854775807) :
    AStep P o M ρ M (.sl 1 (s.data.toList.map bD)) :=
  .grows fun S B β a w hm hs => by
    have h1 := hs x (by simp [ho, Op.operands])
    rw [hx] at h1
    have h1 : a.eval x = .string s := h1
    have hr := run_bytes_of_string (P := P) w T U e s (kindAt_str ht hT) (elemOf_spec ht hU).1 (kindAt_int ht he)
    have hge := grownCap_ge w s.size 0 e
    have hle := grownCap_le_maxLen w s.size 0 e (by simp only [maxLen]; omega)
    have hbel : Below w.heap.size w (w.drew.alloc (.cells (bytesRow s (grownCap w s.size 0 e)) e ((bytesRow s (grownCap w s.size 0 e)).size, (bytesRow s (grownCap w s.size 0 e)).size + 1))) :=
      ⟨rfl, rfl, rfl, by simp, fun k hk => heap_alloc_old w.drew _ hk⟩
    have hrun : (execOp a.eval o).run P w = .ok (.value (.slice (some ⟨w.heap.size, 0, none⟩) s.size (grownCap w s.size 0 e))) (w.drew.alloc (.cells (bytesRow s (grownCap w s.size 0 e)) e ((bytesRow s (grownCap w s.size 0 e)).size, (bytesRow s (grownCap w s.size 0 e)).size + 1))) := by
      simp only [execOp, ho, h1]
      simp only [Sem.run_bind, hr]
      rfl
    refine ⟨_, _, hrun, hbel, fun _ => ⟨_, _, _, rfl, by rw [List.length_map, str_size], hge, hle, bD_all _, fun _ => ⟨w.heap.size, 0, _, rfl, ⟨.inr hm.lo, by simp, fun hl => ?_⟩, DenCs_bytes _ _ _, fun j u hj => ?_⟩⟩⟩
    · have := hm.lt hl; omega
    · have h9 : (w.drew.alloc (.cells (bytesRow s (grownCap w s.size 0 e)) e ((bytesRow s (grownCap w s.size 0 e)).size, (bytesRow s (grownCap w s.size 0 e)).size + 1))).heap[w.heap.size]? = some (.cells (bytesRow s (grownCap w s.size 0 e)) e ((bytesRow s (grownCap w s.size 0 e)).size, (bytesRow s (grownCap w s.size 0 e)).size + 1)) := heap_alloc_new w.drew _
      rw [Nat.zero_add, cell_of_row _ _ _ _ _ _ h9]
      rw [← bytesRow_take s (grownCap w s.size 0 e), List.getElem?_take] at hj
      split at hj
      · simpa using hj
      · cases hj

/-- A datum put into a datum. -/
def putDs (x : D) : List D → Nat → Option (List D)
  | [], _ => none
  | d :: ds, off => bif Nat.beq off 0 then (bif Nat.beq x.width d.width then some (x :: ds) else none) else (bif Nat.ble d.width off then (match putDs x ds (off - d.width) with
    | some r => some (d :: r)
    | none => none) else none)
def putD (x d : D) (off : Nat) : Option D :=
  bif Nat.beq off 0 && Nat.beq x.width d.width then some x else match d with
    | .ag fs => match putDs x fs off with
      | some r => some (.ag r)
      | none => none
    | _ => none
theorem putDs_sat {w : World} {imm : Nat → Prop} {x : D} {xs : List Value} (hx : DenC w imm x xs) : ∀ {ds r : List D} {off : Nat} {cs : List Value}, putDs x ds off = some r → DenCs w imm ds cs →
    DenCs w imm r (cs.take off ++ xs ++ cs.drop (off + xs.length)) ∧ D.widths r = D.widths ds ∧ off + xs.length ≤ cs.length
  | [], _, _, _, h, _ => by cases h
  | d :: ds, r, off, cs, h, ⟨c1, c2, h1, h2, h3⟩ => by
    simp only [putDs] at h
    subst h1
    have hl1 := h2.len
    have hlx := hx.len
    cases h0 : Nat.beq off 0 with
    | true =>
      rw [h0] at h
      have h0 := Nat.eq_of_beq_eq_true h0
      subst h0
      simp only [cond_true] at h
      cases hw : Nat.beq x.width d.width with
      | false => rw [hw] at h; cases h
      | true =>
        rw [hw] at h
        cases h
        have hw := Nat.eq_of_beq_eq_true hw
        refine ⟨⟨xs, c2, ?_, hx, h3⟩, by simp [D.widths, hw], by simp; omega⟩
        rw [List.take_zero, List.nil_append, Nat.zero_add, List.drop_left' (by omega)]
    | false =>
      rw [h0] at h
      simp only [cond_false] at h
      cases hle : Nat.ble d.width off with
      | false => rw [hle] at h; cases h
      | true =>
        rw [hle] at h
        simp only [cond_true] at h
        have hle := Nat.le_of_ble_eq_true hle
        split at h
        · rename_i r' hr
          cases h
          obtain ⟨k1, k2, k3⟩ := putDs_sat hx hr h3
          refine ⟨⟨c1, _, ?_, h2, k1⟩, by simp [D.widths, k2], by simp; omega⟩
          rw [List.take_append, List.drop_append, List.take_of_length_le (by omega), List.drop_of_length_le (by omega), List.nil_append, hl1]
          rw [show off + xs.length - d.width = off - d.width + xs.length by omega]
          simp
        · cases h
theorem putD_sat {w : World} {imm : Nat → Prop} {x d r : D} {off : Nat} {cs xs : List Value} (hx : DenC w imm x xs) (h : putD x d off = some r) (hd : DenC w imm d cs) :
    DenC w imm r (cs.take off ++ xs ++ cs.drop (off + xs.length)) ∧ r.width = d.width ∧ off + xs.length ≤ cs.length := by
  unfold putD at h
  cases hb : Nat.beq off 0 && Nat.beq x.width d.width with
  | true =>
    rw [hb] at h
    cases h
    rw [Bool.and_eq_true] at hb
    have h0 := Nat.eq_of_beq_eq_true hb.1
    have hw := Nat.eq_of_beq_eq_true hb.2
    subst h0
    have hl1 := hd.len
    have hlx := hx.len
    refine ⟨?_, hw, by omega⟩
    rw [List.take_zero, List.nil_append, Nat.zero_add, List.drop_of_length_le (by omega), List.append_nil]
    exact hx
  | false =>
    rw [hb] at h
    simp only [cond_false] at h
    split at h
    · split at h
      · rename_i r' hr
        cases h
        exact putDs_sat hx hr hd
      · cases h
    · cases h

theorem list_put3 {A1 A2 A3 X : List Value} {off : Nat} : (A1 ++ A2 ++ A3).take (A1.length + off) ++ X ++ (A1 ++ A2 ++ A3).drop (A1.length + off + X.length) = A1 ++ ((A2 ++ A3).take off ++ X ++ (A2 ++ A3).drop (off + X.length)) := by
  rw [List.append_assoc A1, List.take_length_add_append, Nat.add_assoc, List.drop_length_add_append]
  simp
theorem DenCs.set_ {w : World} {imm : Nat → Prop} : ∀ {es : List D} {cs xs : List Value} {j off k : Nat} {d x r : D}, DenCs w imm es cs → AllW k es → es[j]? = some d → putD x d off = some r → DenC w imm x xs →
    DenCs w imm (es.set j r) (cs.take (j * k + off) ++ xs ++ cs.drop (j * k + off + xs.length)) ∧ AllW k (es.set j r) ∧ j * k + off + xs.length ≤ cs.length
  | [], _, _, _, _, _, _, _, _, _, _, h, _, _ => by simp at h
  | e :: es, cs, xs, 0, off, k, d, x, r, ⟨c1, c2, h1, h2, h3⟩, hw, hd, hp, hx => by
    simp only [List.getElem?_cons_zero, Option.some.injEq] at hd
    subst hd
    obtain ⟨k1, k2, k3⟩ := putD_sat hx hp h2
    subst h1
    rw [Nat.zero_mul, Nat.zero_add]
    refine ⟨⟨_, c2, ?_, k1, h3⟩, fun y hy => ?_, by simp; omega⟩
    · rw [List.take_append_of_le_length (by omega), List.drop_append_of_le_length k3]
      simp
    · rcases List.mem_cons.1 hy with rfl | hy
      · rw [k2]; exact hw e (by simp)
      · exact hw y (by simp [hy])
  | e :: es, cs, xs, j + 1, off, k, d, x, r, ⟨c1, c2, h1, h2, h3⟩, hw, hd, hp, hx => by
    have hwe : e.width = k := hw e (by simp)
    have hl := h2.len
    obtain ⟨k1, k2, k3⟩ := DenCs.set_ (j := j) h3 (fun y hy => hw y (by simp [hy])) (by simpa using hd) hp hx
    subst h1
    have e1 : (j + 1) * k + off = c1.length + (j * k + off) := by rw [Nat.add_mul, Nat.one_mul]; omega
    refine ⟨⟨c1, _, ?_, h2, k1⟩, fun y hy => ?_, by rw [e1, List.length_append]; omega⟩
    · rw [e1, List.take_length_add_append, Nat.add_assoc, List.drop_length_add_append]
      simp
    · rcases List.mem_cons.1 hy with rfl | hy
      · exact hwe
      · exact k2 y hy

/-- A write into an own row's element. -/
theorem astep_store_e (ht : TyTab P tab) {T i ver j off e k : Nat} {te : TE} {es : List D} {x y : Operand} {d xd r : D} (ho : o.op = .store T x y) (hT : tget tab T = some te) (hx : ρ x = .eptr i ver j off) (hM : M[i]? = some (.row ver e k es))
    (hd : es[j]? = some d) (hy : toD (ρ y) = some xd) (h1c : oneCs (cellsOf (ρ y)) = true) (hsz : xd.width = te.size) (hp : putD xd d off = some r) (hv : sealed ver = false) : AStep P o M ρ (M.set i (.row ver e k (es.set j r))) (.val undef) := by
  intro S B β a w hm hs K Q hK
  have h1 := hs x (by simp [ho, Op.operands])
  have h2 := hs y (by simp [ho, Op.operands])
  rw [hx] at h1
  obtain ⟨ab, h3, h4⟩ := h1
  rw [hM] at h3; cases h3
  obtain ⟨g, c, h5, h6⟩ := h4.2 rfl
  have hyd := toD_sat hy h1c h2
  obtain ⟨hw, h7 | ⟨g', c', cs, h7, h8, h9, h10, h11, h12⟩⟩ := hm.ent i _ hM
  · rw [h5] at h7; cases h7.1
  rw [h5] at h7; cases h7
  obtain ⟨q1, q2, q3⟩ := h12.set_ hw hd hp hyd
  obtain ⟨fz, g1, g2⟩ := h8
  have hlx := hyd.len
  have hone : ∀ u ∈ (a.eval y).cells.toList, u.oneCell' = true := (cellsOf_sat h1c h2).2
  have hvs : (a.eval y).cells.size = te.size := by rw [← Array.length_toList, hlx, hsz]
  have hct : cs.toList.length = cs.size := Array.length_toList
  have hcl : (cs.toList.take (es.length * k)).length = es.length * k := by rw [List.length_take, hct, h11]; exact Nat.min_eq_left (Nat.mul_le_mul_right _ h9)
  rw [hcl] at q3
  have hfit : j * k + off + (a.eval y).cells.toList.length ≤ cs.size := by rw [h11]; exact Nat.le_trans q3 (Nat.mul_le_mul_right _ h9)
  have hst := run_storeCells_c P g (j * k + off) e fz (a.eval y).cells.toList 0 cs w g1 (fun j _ hj => g2.clear hv j hj) (by simpa using hfit) hone
  simp only [Nat.add_zero] at hst
  have hrun : (execOp a.eval o).run P w = .ok .skip (w.setRow g (cs.toList.take (j * k + off) ++ (a.eval y).cells.toList ++ cs.toList.drop (j * k + off + (a.eval y).cells.toList.length)).toArray) := by
    simp only [execOp, ho, h6, Instr.storeAt, Instr.sureAddr]
    simp only [Sem.run_bind, Sem.run_pure, Result.andThen_ok, storeVar, run_sizeOf (ht.get hT), hvs, ne_eq, not_true_eq_false, if_false, hst]
  unfold Oper.wp
  rw [hrun]
  have hs' : setE β i (some (g, c)) = β := by funext j; by_cases hj : j = i <;> simp [setE, hj, h5]
  have hsize : (cs.toList.take (j * k + off) ++ (a.eval y).cells.toList ++ cs.toList.drop (j * k + off + (a.eval y).cells.toList.length)).length = cs.size := by
    simp only [List.length_append, List.length_take, List.length_drop, hct]; omega
  have := hm.set_ (w' := w.setRow g (cs.toList.take (j * k + off) ++ (a.eval y).cells.toList ++ cs.toList.drop (j * k + off + (a.eval y).cells.toList.length)).toArray)
    (ab' := .row ver e k (es.set j r)) (x := some (g, c)) hM rfl rfl rfl rfl (by simp)
    (fun b _ hne => setRow_other w g b _ (fun e => hne c (by rw [h5, e]))) (fun g' c' h => by cases h; exact .inl ⟨c, h5⟩) ⟨Nat.le_refl _, rfl, fun _ => ⟨h5.symm, by simp⟩⟩
    (fun hE => ⟨q2, .inr ⟨g, c, _, rfl, ⟨fz, setRow_heap w g cs _ e _ g1, g2.mono rfl (by rw [List.length_set]; exact Nat.le_refl _) (by rw [List.size_toArray, hsize])⟩, by rw [List.length_set]; exact h9, h10, by rw [List.size_toArray, hsize, h11], by
      have := DenCs.mono (fun _ => immOf.ev hE) (fun _ off => immOf.cell hE off) _ _ q1
      have e2 : (cs.toList.take (j * k + off) ++ (a.eval y).cells.toList ++ cs.toList.drop (j * k + off + (a.eval y).cells.toList.length)).take ((es.set j r).length * k)
          = (cs.toList.take (es.length * k)).take (j * k + off) ++ (a.eval y).cells.toList ++ (cs.toList.take (es.length * k)).drop (j * k + off + (a.eval y).cells.toList.length) := by
        rw [List.length_set, List.take_take, Nat.min_eq_left (by omega), List.drop_take]
        rw [List.append_assoc, List.append_assoc, List.take_append, List.take_append]
        rw [List.take_of_length_le (l := cs.toList.take (j * k + off)) (by rw [List.length_take]; omega), List.take_of_length_le (l := (a.eval y).cells.toList) (by rw [List.length_take, hct]; omega)]
        congr 3
        rw [List.length_take, hct]
        omega
      rw [List.toList_toArray, e2]
      exact this⟩⟩)
  rw [hs'] at this
  exact hK _ _ _ this.1 this.2 rfl
end
end Go.Proofs.Ytajbbcnfohbieaa
