import Derived.Test.YtiolnmfaeenlmaaGreatDoorV
import Derived.Lib.OthersKept
import Derived.Lib.AppendStr
import Derived.Laws.Cover4
import Derived.Laws.Slices
import Derived.Lib.UnsafeStr
/- The engine, part 19: strings: iterators, runes, bytes; own rows' elements; cuts. -/
namespace Go.Proofs.YtiolnmfaeenlmaaGreatDoor
open Go Go.RowKit

def bD (b : UInt8) : D := .val (.int .u8 (b.toNat : Int))
def rD (n : Int) : D := .val (.int .i32 n)
theorem bD_all (l : List UInt8) : AllW 1 (l.map bD) := fun d hd => by
  obtain ⟨b, _, rfl⟩ := List.mem_map.1 hd
  rfl
theorem DenCs_bytes (w : World) (imm : Nat → Prop) : ∀ l : List UInt8, DenCs w imm (l.map bD) (l.map fun b => Value.int .u8 b.toNat)
  | [] => rfl
  | b :: l => ⟨[.int .u8 b.toNat], l.map fun b => Value.int .u8 b.toNat, rfl, ⟨rfl, rfl⟩, DenCs_bytes w imm l⟩
theorem DenCs_bytes_eq {w : World} {imm : Nat → Prop} : ∀ {l : List UInt8} {cs : List Value}, DenCs w imm (l.map bD) cs → cs = l.map fun b => Value.int .u8 b.toNat
  | [], cs, h => h
  | b :: l, cs, ⟨c1, c2, h1, h2, h3⟩ => by rw [h1, h2.1, DenCs_bytes_eq h3]; rfl
theorem DenCs_runes_eq {w : World} {imm : Nat → Prop} : ∀ {l : List Int} {cs : List Value}, DenCs w imm (l.map rD) cs → cs = l.map (Value.int .i32)
  | [], cs, h => h
  | b :: l, cs, ⟨c1, c2, h1, h2, h3⟩ => by rw [h1, h2.1, DenCs_runes_eq h3]; rfl

section
variable {P : Program} {o : Oper} {M M' : List AB} {ρ : Operand → AV} {out : AV} {tab : List (Nat × TE)}

theorem astep_range (ht : TyTab P tab) {T : Nat} {x : Operand} {s : ByteArray} (ho : o.op = .range T x) (hT : kindAt tab T = some .str) (hx : ρ x = .val (.string s)) : AStep P o M ρ (M ++ [.iter s 0]) (.ptr M.length 0) := by
  intro S B β a w hm hs K Q hK
  have h1 := hs x (by simp [ho, Op.operands])
  rw [hx] at h1
  have h1 : a.eval x = .string s := h1
  have hrun : (execOp a.eval o).run P w = .ok (.value (.pointer (some ⟨w.heap.size, 0, none⟩))) (w.iter s 0) := by
    simp [execOp, ho, h1, run_range_string w T s (kindAt_str ht hT)]
  obtain ⟨e1, e2⟩ := hm.push (ab := .iter s 0) (x := some (w.heap.size, 0)) (w' := w.iter s 0) ((Below.refl _ _).alloc (Nat.le_refl _) _) (fun g c h => by cases h; exact Nat.le_refl _) (fun _ => ⟨w.heap.size, 0, rfl, w.iter_heap s 0⟩)
  unfold Oper.wp
  rw [hrun]
  exact hK _ _ _ e1 e2 ⟨w.heap.size, 0, by simp, rfl, .iter s 0, by simp, rfl⟩

theorem astep_next {x : Operand} {i pos : Nat} {s : ByteArray} (ho : o.op = .next x true) (hx : ρ x = .ptr i 0) (hM : M[i]? = some (.iter s pos)) (hp : pos < s.size) :
    AStep P o M ρ (M.set i (.iter s (pos + (Utf8.decode s pos).2))) (.tup [.val (.bool true), .val (.int .i64 pos), .val (.int .i32 (Utf8.decode s pos).1)]) := by
  intro S B β a w hm hs K Q hK
  have h1 := hs x (by simp [ho, Op.operands])
  rw [hx] at h1
  obtain ⟨g, c, h3, h4, _⟩ := h1
  obtain ⟨g', c', h5, h6⟩ := hm.ent i _ hM
  rw [h3] at h5; cases h5
  have hrun : (execOp a.eval o).run P w = .ok (.value (.tuple #[.bool true, .int .i64 pos, .int .i32 (Utf8.decode s pos).1])) (w.iterAt g s (pos + (Utf8.decode s pos).2)) := by
    simp [execOp, ho, h4, Lib.run_next_any_at w g s pos o.type h6 hp]
  have hs' : setE β i (some (g, c)) = β := by funext j; by_cases hj : j = i <;> simp [setE, hj, h3]
  have := hm.set_ (w' := w.iterAt g s (pos + (Utf8.decode s pos).2)) (ab' := .iter s (pos + (Utf8.decode s pos).2)) (x := some (g, c)) hM rfl rfl rfl rfl (by rw [Lib.iterAt_size]; exact Nat.le_refl _)
    (fun b _ hne => Lib.iterAt_other w g b s _ (fun e => hne c (by rw [h3, e]))) (fun g' c' h => by cases h; exact .inl ⟨c, h3⟩) ⟨rfl, h3.symm⟩ (fun _ => ⟨g, c, rfl, Lib.iterAt_heap w g s pos _ h6⟩)
  rw [hs'] at this
  unfold Oper.wp
  rw [hrun]
  exact hK _ _ _ this.1 this.2 ⟨_, rfl, _, _, rfl, rfl, _, _, rfl, rfl, _, _, rfl, rfl, rfl⟩

theorem astep_next_end {x : Operand} {i pos : Nat} {s : ByteArray} (ho : o.op = .next x true) (hx : ρ x = .ptr i 0) (hM : M[i]? = some (.iter s pos)) (hp : ¬ pos < s.size) :
    AStep P o M ρ M (.tup [.val (.bool false)]) :=
  .value fun S B β a w hm hs => by
    have h1 := hs x (by simp [ho, Op.operands])
    rw [hx] at h1
    obtain ⟨g, c, h3, h4, _⟩ := h1
    obtain ⟨g', c', h5, h6⟩ := hm.ent i _ hM
    rw [h3] at h5; cases h5
    exact ⟨_, by simp [execOp, ho, h4, Lib.run_next_end_at w g s pos o.type h6 hp], _, rfl, _, _, rfl, rfl, rfl⟩

/-- A pointer that is none but nil. -/
def isPtr : AV → Bool
  | .ptr _ _ => true
  | .dptr _ => true
  | _ => false
theorem astep_nilCheck {x : Operand} (ho : o.op = .nilCheck x) (hx : isPtr (ρ x) = true) : AStep P o M ρ M (ρ x) :=
  .value fun S B β a w hm hs => by
    have h1 := hs x (by simp [ho, Op.operands])
    refine ⟨a.eval x, ?_, h1⟩
    cases hv : ρ x with
    | ptr i off =>
      rw [hv] at h1
      obtain ⟨g, c, _, h2, _⟩ := h1
      simp [execOp, ho, h2]
    | dptr l =>
      rw [hv] at h1
      obtain ⟨g, off, cs, h2, _⟩ := h1
      simp [execOp, ho, h2]
    | _ => rw [hv] at hx; cases hx

/-- A rune as a string; runes; bytes. -/
theorem astep_rune_str (ht : TyTab P tab) {T U : Nat} {x : Operand} {k : IntKind} {n : Int} {tk : TK} (ho : o.op = .convert T U x) (hT : kindAt tab T = some tk) (hU : kindAt tab U = some .str) (hx : ρ x = .val (.int k n)) : AStep P o M ρ M (.val (.string (Utf8.encode n))) :=
  .value fun S B β a w _ hs => by
    have h1 := hs x (by simp [ho, Op.operands])
    rw [hx] at h1
    have h1 : a.eval x = .int k n := h1
    obtain ⟨d, hd, _⟩ := kindAt_spec ht hT
    have := run_convert_int_string (P := P) w T U k n (by rw [hd]; rfl) (kindAt_str ht hU)
    exact ⟨_, by simp [execOp, ho, h1, this], rfl⟩
theorem astep_runes_str (ht : TyTab P tab) {T U e : Nat} {ee : TE} {x : Operand} {l : List Int} (ho : o.op = .convert T U x) (hT : elemOf_ tab T = some (e, ee)) (he : kindAt tab e = some (.int .i32)) (hU : kindAt tab U = some .str)
    (hx : ρ x = .sl 1 (l.map rD)) : AStep P o M ρ M (.val (.string (runesBytes l))) :=
  .value fun S B β a w _ hs => by
    have h1 := hs x (by simp [ho, Op.operands])
    rw [hx] at h1
    obtain ⟨A, n, c, rows, s1, s2, s3, s4, s5, s6, s7⟩ := src_of h1
    have hcv := run_convert_runes_string (P := P) w T U e A n c (elemOf_spec ht hT).1 (kindAt_int ht he) (kindAt_str ht hU)
    have hrows := DenCs_runes_eq s4
    rw [List.length_map] at s2
    cases A with
    | none =>
      have h0 : l = [] := by
        refine List.eq_nil_of_length_eq_zero ?_
        rcases Nat.eq_zero_or_pos n with h | h
        · omega
        · obtain ⟨ad, h'⟩ := s6 h; cases h'
      subst h0
      refine ⟨_, ?_, rfl⟩
      simp only [execOp, ho, s1]
      simp only [Sem.run_bind, hcv]
      rfl
    | some ad =>
      have hl := run_loadCells_list (P := P) (w := w) ad rows (s7 ad rfl)
      rw [s5, Nat.mul_one, hrows] at hl
      have hr := run_runesToString (P := P) w ad n c l hl
      refine ⟨_, ?_, rfl⟩
      simp only [execOp, ho, s1]
      simp only [Sem.run_bind, hcv, hr]
      rfl
theorem bytesStr_bytes (l : List UInt8) : bytesStr (l.map fun b => (b.toNat : Int)) = ⟨l.toArray⟩ := by
  simp [bytesStr, Function.comp_def]
theorem astep_bytes_str' (ht : TyTab P tab) {T U e : Nat} {ee : TE} {x : Operand} {l : List UInt8} (ho : o.op = .convert T U x) (hT : elemOf_ tab T = some (e, ee)) (he : kindAt tab e = some (.int .u8)) (hU : kindAt tab U = some .str)
    (hx : ρ x = .sl 1 (l.map bD)) : AStep P o M ρ M (.val (.string ⟨l.toArray⟩)) := by
  have := astep_bytes_str (P := P) (M := M) (ρ := ρ) (o := o) (ns := l.map fun b => (b.toNat : Int)) ht ho hT he hU (by rw [hx, List.map_map]; rfl)
  rwa [bytesStr_bytes] at this
theorem astep_row_str (ht : TyTab P tab) {T U e i ver e' : Nat} {ee : TE} {x : Operand} {l : List UInt8} (ho : o.op = .convert T U x) (hT : elemOf_ tab T = some (e, ee)) (he : kindAt tab e = some (.int .u8)) (hU : kindAt tab U = some .str)
    (hx : ρ x = .row i ver) (hM : M[i]? = some (.row ver e' 1 (l.map bD))) : AStep P o M ρ M (.val (.string ⟨l.toArray⟩)) :=
  .value fun S B β a w hm hs => by
    have h1 := hs x (by simp [ho, Op.operands])
    rw [hx] at h1
    have h2 : DenC w (fun b => immOf S B M β w b ∨ live M β b) (.sl 1 (l.map bD)) [a.eval x] := row_as_sl hm (fun b h => .inl h) (fun b h => .inr h) hM h1
    obtain ⟨A, n, c, rows, s1, s2, s3, s4, s5, s6, s7⟩ := src_of h2
    have hcv := run_convert_bytes_string (P := P) w T U e A n c (elemOf_spec ht hT).1 (kindAt_int ht he) (kindAt_str ht hU)
    have hrows := DenCs_bytes_eq s4
    rw [List.length_map] at s2
    cases A with
    | none =>
      have h0 : l = [] := by
        refine List.eq_nil_of_length_eq_zero ?_
        rcases Nat.eq_zero_or_pos n with h | h
        · omega
        · obtain ⟨ad, h'⟩ := s6 h; cases h'
      subst h0
      refine ⟨_, ?_, rfl⟩
      simp only [execOp, ho, s1]
      simp only [Sem.run_bind, hcv]
      simp [Conv.bytesToString]
      rfl
    | some ad =>
      have hl := run_loadCells_list (P := P) (w := w) ad rows (s7 ad rfl)
      have hrows' : rows = (l.map fun b => (b.toNat : Int)).map (Value.int .u8) := by rw [hrows, List.map_map]; rfl
      rw [s5, Nat.mul_one, hrows'] at hl
      have hr := run_bytesToString (P := P) w ad n c _ hl
      refine ⟨.string ⟨l.toArray⟩, ?_, rfl⟩
      simp only [execOp, ho, s1]
      simp only [Sem.run_bind, hcv, hr, foldl_bytes]
      simp [Function.comp_def]

/-- A string's bytes: an own row. -/
theorem bytesRow_take (s : ByteArray) (cap : Nat) : (bytesRow s cap).toList.take (s.data.toList.length * 1) = s.data.toList.map fun b => Value.int .u8 b.toNat := by
  unfold bytesRow
  rw [Array.toList_append, List.take_append_of_le_length (by simp)]
  rw [List.take_of_length_le (by simp)]
  simp
theorem str_size (s : ByteArray) : s.data.toList.length = s.size := Array.length_toList
theorem clear_end (n : Nat) : clear (n, n + 1) n := fun j hj => by
  have h : ¬ n ≤ j := by omega
  simp [h]
theorem astep_str_bytes (ht : TyTab P tab) {T U e : Nat} {ee : TE} {x : Operand} {s : ByteArray} (ho : o.op = .convert T U x) (hT : kindAt tab T = some .str) (hU : elemOf_ tab U = some (e, ee)) (he : kindAt tab e = some (.int .u8)) (hx : ρ x = .val (.string s)) (hb : s.size ≤ 9223372036854775807) :
    AStep P o M ρ (M ++ [.row 0 e 1 (s.data.toList.map bD)]) (.row M.length 0) := by
  intro S B β a w hm hs K Q hK
  have h1 := hs x (by simp [ho, Op.operands])
  rw [hx] at h1
  have h1 : a.eval x = .string s := h1
  have hr := run_bytes_of_string (P := P) w T U e s (kindAt_str ht hT) (elemOf_spec ht hU).1 (kindAt_int ht he)
  have hge := grownCap_ge w s.size 0 e
  have hle := grownCap_le_maxLen w s.size 0 e (by simp only [maxLen]; omega)
  have hsz : (bytesRow s (grownCap w s.size 0 e)).size = grownCap w s.size 0 e := by
    have := str_size s
    simp only [bytesRow, Array.size_append, Array.size_map, Array.size_replicate]
    have h : s.data.size = s.size := rfl
    omega
  have hbel : Below w.heap.size w (w.drew.alloc (.cells (bytesRow s (grownCap w s.size 0 e)) e ((bytesRow s (grownCap w s.size 0 e)).size, (bytesRow s (grownCap w s.size 0 e)).size + 1))) :=
    ⟨rfl, rfl, rfl, by simp, fun k hk => heap_alloc_old w.drew _ hk⟩
  have hfit : ∀ imm, EntSat (M ++ [.row 0 e 1 (s.data.toList.map bD)]) (setE β M.length (some (w.heap.size, grownCap w s.size 0 e))) (w.drew.alloc (.cells (bytesRow s (grownCap w s.size 0 e)) e ((bytesRow s (grownCap w s.size 0 e)).size, (bytesRow s (grownCap w s.size 0 e)).size + 1))) imm (some (w.heap.size, grownCap w s.size 0 e)) (.row 0 e 1 (s.data.toList.map bD)) := by
    intro imm
    refine ⟨bD_all _, .inr ⟨w.heap.size, _, _, rfl, ⟨_, heap_alloc_new w.drew _, clear_end _⟩, ?_, hle, by rw [hsz, Nat.mul_one], ?_⟩⟩
    · rw [List.length_map, str_size]; exact hge
    · rw [List.length_map, bytesRow_take]; exact DenCs_bytes _ _ _
  obtain ⟨e1, e2⟩ := hm.push (ab := .row 0 e 1 (s.data.toList.map bD)) (x := some (w.heap.size, grownCap w s.size 0 e)) hbel (fun g c h => by cases h; exact Nat.le_refl _) (fun _ => hfit _)
  have hrun : (execOp a.eval o).run P w = .ok (.value (.slice (some ⟨w.heap.size, 0, none⟩) s.size (grownCap w s.size 0 e))) (w.drew.alloc (.cells (bytesRow s (grownCap w s.size 0 e)) e ((bytesRow s (grownCap w s.size 0 e)).size, (bytesRow s (grownCap w s.size 0 e)).size + 1))) := by
    simp only [execOp, ho, h1]
    simp only [Sem.run_bind, hr]
    rfl
  unfold Oper.wp
  rw [hrun]
  refine hK _ _ _ e1 e2 ⟨.row 0 e 1 (s.data.toList.map bD), by simp, Nat.le_refl _, fun _ => ?_⟩
  rw [setE_same, List.length_map, str_size]
  rfl
/-- A string's bytes: data. -/
theorem astep_str_data (ht : TyTab P tab) {T U e : Nat} {ee : TE} {x : Operand} {s : ByteArray} (ho : o.op = .convert T U x) (hT : kindAt tab T = some .str) (hU : elemOf_ tab U = some (e, ee)) (he : kindAt tab e = some (.int .u8)) (hx : ρ x = .val (.string s)) (hb : s.size ≤ 9223372036854775807) :
    AStep P o M ρ M (.sl 1 (s.data.toList.map bD)) :=
  .grows fun S B β a w hm hs => by
    have h1 := hs x (by simp [ho, Op.operands])
    rw [hx] at h1
    have h1 : a.eval x = .string s := h1
    have hr := run_bytes_of_string (P := P) w T U e s (kindAt_str ht hT) (elemOf_spec ht hU).1 (kindAt_int ht he)
    have hge := grownCap_ge w s.size 0 e
    have hle := grownCap_le_maxLen w s.size 0 e (by simp only [maxLen]; omega)
    have hbel : Below w.heap.size w (w.drew.alloc (.cells (bytesRow s (grownCap w s.size 0 e)) e ((bytesRow s (grownCap w s.size 0 e)).size, (bytesRow s (grownCap w s.size 0 e)).size + 1))) :=
      ⟨rfl, rfl, rfl, by simp, fun k hk => heap_alloc_old w.drew _ hk⟩
    have hrun : (execOp a.eval o).run P w = .ok (.value (.slice (some ⟨w.heap.size, 0, none⟩) s.size (grownCap w s.size 0 e))) (w.drew.alloc (.cells (bytesRow s (grownCap w s.size 0 e)) e ((bytesRow s (grownCap w s.size 0 e)).size, (bytesRow s (grownCap w s.size 0 e)).size + 1))) := by
      simp only [execOp, ho, h1]
      simp only [Sem.run_bind, hr]
      rfl
    refine ⟨_, _, hrun, hbel, fun _ => ⟨_, _, _, rfl, by rw [List.length_map, str_size], hge, hle, bD_all _, fun _ => ⟨w.heap.size, 0, _, rfl, ⟨.inr hm.lo, by simp, fun hl => ?_⟩, DenCs_bytes _ _ _, fun j u hj => ?_⟩⟩⟩
    · have := hm.lt hl; omega
    · have h9 : (w.drew.alloc (.cells (bytesRow s (grownCap w s.size 0 e)) e ((bytesRow s (grownCap w s.size 0 e)).size, (bytesRow s (grownCap w s.size 0 e)).size + 1))).heap[w.heap.size]? = some (.cells (bytesRow s (grownCap w s.size 0 e)) e ((bytesRow s (grownCap w s.size 0 e)).size, (bytesRow s (grownCap w s.size 0 e)).size + 1)) := heap_alloc_new w.drew _
      rw [Nat.zero_add, cell_of_row _ _ _ _ _ _ h9]
      rw [← bytesRow_take s (grownCap w s.size 0 e), List.getElem?_take] at hj
      split at hj
      · simpa using hj
      · cases hj

/-- A datum put into a datum. -/
def putDs (x : D) : List D → Nat → Option (List D)
  | [], _ => none
  | d :: ds, off => bif Nat.beq off 0 then (bif Nat.beq x.width d.width then some (x :: ds) else none) else (bif Nat.ble d.width off then (match putDs x ds (off - d.width) with
    | some r => some (d :: r)
    | none => none) else none)
def putD (x d : D) (off : Nat) : Option D :=
  bif Nat.beq off 0 && Nat.beq x.width d.width then some x else match d with
    | .ag fs => match putDs x fs off with
      | some r => some (.ag r)
      | none => none
    | _ => none
theorem putDs_sat {w : World} {imm : Nat → Prop} {x : D} {xs : List Value} (hx : DenC w imm x xs) : ∀ {ds r : List D} {off : Nat} {cs : List Value}, putDs x ds off = some r → DenCs w imm ds cs →
    DenCs w imm r (cs.take off ++ xs ++ cs.drop (off + xs.length)) ∧ D.widths r = D.widths ds ∧ off + xs.length ≤ cs.length
  | [], _, _, _, h, _ => by cases h
  | d :: ds, r, off, cs, h, ⟨c1, c2, h1, h2, h3⟩ => by
    simp only [putDs] at h
    subst h1
    have hl1 := h2.len
    have hlx := hx.len
    cases h0 : Nat.beq off 0 with
    | true =>
      rw [h0] at h
      have h0 := Nat.eq_of_beq_eq_true h0
      subst h0
      simp only [cond_true] at h
      cases hw : Nat.beq x.width d.width with
      | false => rw [hw] at h; cases h
      | true =>
        rw [hw] at h
        cases h
        have hw := Nat.eq_of_beq_eq_true hw
        refine ⟨⟨xs, c2, ?_, hx, h3⟩, by simp [D.widths, hw], by simp; omega⟩
        rw [List.take_zero, List.nil_append, Nat.zero_add, List.drop_left' (by omega)]
    | false =>
      rw [h0] at h
      simp only [cond_false] at h
      cases hle : Nat.ble d.width off with
      | false => rw [hle] at h; cases h
      | true =>
        rw [hle] at h
        simp only [cond_true] at h
        have hle := Nat.le_of_ble_eq_true hle
        split at h
        · rename_i r' hr
          cases h
          obtain ⟨k1, k2, k3⟩ := putDs_sat hx hr h3
          refine ⟨⟨c1, _, ?_, h2, k1⟩, by simp [D.widths, k2], by simp; omega⟩
          rw [List.take_append, List.drop_append, List.take_of_length_le (by omega), List.drop_of_length_le (by omega), List.nil_append, hl1]
          rw [show off + xs.length - d.width = off - d.width + xs.length by omega]
          simp
        · cases h
theorem putD_sat {w : World} {imm : Nat → Prop} {x d r : D} {off : Nat} {cs xs : List Value} (hx : DenC w imm x xs) (h : putD x d off = some r) (hd : DenC w imm d cs) :
    DenC w imm r (cs.take off ++ xs ++ cs.drop (off + xs.length)) ∧ r.width = d.width ∧ off + xs.length ≤ cs.length := by
  unfold putD at h
  cases hb : Nat.beq off 0 && Nat.beq x.width d.width with
  | true =>
    rw [hb] at h
    cases h
    rw [Bool.and_eq_true] at hb
    have h0 := Nat.eq_of_beq_eq_true hb.1
    have hw := Nat.eq_of_beq_eq_true hb.2
    subst h0
    have hl1 := hd.len
    have hlx := hx.len
    refine ⟨?_, hw, by omega⟩
    rw [List.take_zero, List.nil_append, Nat.zero_add, List.drop_of_length_le (by omega), List.append_nil]
    exact hx
  | false =>
    rw [hb] at h
    simp only [cond_false] at h
    split at h
    · split at h
      · rename_i r' hr
        cases h
        exact putDs_sat hx hr hd
      · cases h
    · cases h

theorem DenCs.set_ {w : World} {imm : Nat → Prop} : ∀ {es : List D} {cs xs : List Value} {j off k : Nat} {d x r : D}, DenCs w imm es cs → AllW k es → es[j]? = some d → putD x d off = some r → DenC w imm x xs →
    DenCs w imm (es.set j r) (cs.take (j * k + off) ++ xs ++ cs.drop (j * k + off + xs.length)) ∧ AllW k (es.set j r) ∧ j * k + off + xs.length ≤ cs.length
  | [], _, _, _, _, _, _, _, _, _, _, h, _, _ => by simp at h
  | e :: es, cs, xs, 0, off, k, d, x, r, ⟨c1, c2, h1, h2, h3⟩, hw, hd, hp, hx => by
    simp only [List.getElem?_cons_zero, Option.some.injEq] at hd
    subst hd
    obtain ⟨k1, k2, k3⟩ := putD_sat hx hp h2
    subst h1
    rw [Nat.zero_mul, Nat.zero_add]
    refine ⟨⟨_, c2, ?_, k1, h3⟩, fun y hy => ?_, by simp; omega⟩
    · rw [List.take_append_of_le_length (by omega), List.drop_append_of_le_length k3]
      simp
    · rcases List.mem_cons.1 hy with rfl | hy
      · rw [k2]; exact hw e (by simp)
      · exact hw y (by simp [hy])
  | e :: es, cs, xs, j + 1, off, k, d, x, r, ⟨c1, c2, h1, h2, h3⟩, hw, hd, hp, hx => by
    have hwe : e.width = k := hw e (by simp)
    have hl := h2.len
    obtain ⟨k1, k2, k3⟩ := DenCs.set_ (j := j) h3 (fun y hy => hw y (by simp [hy])) (by simpa using hd) hp hx
    subst h1
    have e1 : (j + 1) * k + off = c1.length + (j * k + off) := by rw [Nat.add_mul, Nat.one_mul]; omega
    refine ⟨⟨c1, _, ?_, h2, k1⟩, fun y hy => ?_, by rw [e1, List.length_append]; omega⟩
    · rw [e1, List.take_length_add_append, Nat.add_assoc, List.drop_length_add_append]
      simp
    · rcases List.mem_cons.1 hy with rfl | hy
      · exact hwe
      · exact k2 y hy

/-- A write into an own row's element. -/
theorem astep_store_e (ht : TyTab P tab) {T i ver j off e k : Nat} {te : TE} {es : List D} {x y : Operand} {d xd r : D} (ho : o.op = .store T x y) (hT : tget tab T = some te) (hx : ρ x = .eptr i ver j off) (hM : M[i]? = some (.row ver e k es))
    (hd : es[j]? = some d) (hy : toD (ρ y) = some xd) (h1c : oneCs (cellsOf (ρ y)) = true) (hsz : xd.width = te.size) (hp : putD xd d off = some r) (hv : sealed ver = false) : AStep P o M ρ (M.set i (.row ver e k (es.set j r))) (.val undef) := by
  intro S B β a w hm hs K Q hK
  have h1 := hs x (by simp [ho, Op.operands])
  have h2 := hs y (by simp [ho, Op.operands])
  rw [hx] at h1
  obtain ⟨ab, h3, h4⟩ := h1
  rw [hM] at h3; cases h3
  obtain ⟨g, c, h5, h6⟩ := h4.2 rfl
  have hyd := toD_sat hy h1c h2
  obtain ⟨hw, h7 | ⟨g', c', cs, h7, h8, h9, h10, h11, h12⟩⟩ := hm.ent i _ hM
  · rw [h5] at h7; cases h7.1
  rw [h5] at h7; cases h7
  obtain ⟨q1, q2, q3⟩ := h12.set_ hw hd hp hyd
  obtain ⟨fz, g1, g2⟩ := h8
  have hlx := hyd.len
  have hone : ∀ u ∈ (a.eval y).cells.toList, u.oneCell' = true := (cellsOf_sat h1c h2).2
  have hvs : (a.eval y).cells.size = te.size := by rw [← Array.length_toList, hlx, hsz]
  have hct : cs.toList.length = cs.size := Array.length_toList
  have hcl : (cs.toList.take (es.length * k)).length = es.length * k := by rw [List.length_take, hct, h11]; exact Nat.min_eq_left (Nat.mul_le_mul_right _ h9)
  rw [hcl] at q3
  have hfit : j * k + off + (a.eval y).cells.toList.length ≤ cs.size := by rw [h11]; exact Nat.le_trans q3 (Nat.mul_le_mul_right _ h9)
  have hst := run_storeCells_c P g (j * k + off) e fz (a.eval y).cells.toList 0 cs w g1 (fun j _ hj => g2.clear hv j hj) (by simpa using hfit) hone
  simp only [Nat.add_zero] at hst
  have hrun : (execOp a.eval o).run P w = .ok .skip (w.setRow g (cs.toList.take (j * k + off) ++ (a.eval y).cells.toList ++ cs.toList.drop (j * k + off + (a.eval y).cells.toList.length)).toArray) := by
    simp only [execOp, ho, h6, Instr.storeAt, Instr.sureAddr]
    simp only [Sem.run_bind, Sem.run_pure, Result.andThen_ok, storeVar, run_sizeOf (ht.get hT), hvs, ne_eq, not_true_eq_false, if_false, hst]
  unfold Oper.wp
  rw [hrun]
  have hs' : setE β i (some (g, c)) = β := by funext j; by_cases hj : j = i <;> simp [setE, hj, h5]
  have hsize : (cs.toList.take (j * k + off) ++ (a.eval y).cells.toList ++ cs.toList.drop (j * k + off + (a.eval y).cells.toList.length)).length = cs.size := by
    simp only [List.length_append, List.length_take, List.length_drop, hct]; omega
  have := hm.set_ (w' := w.setRow g (cs.toList.take (j * k + off) ++ (a.eval y).cells.toList ++ cs.toList.drop (j * k + off + (a.eval y).cells.toList.length)).toArray)
    (ab' := .row ver e k (es.set j r)) (x := some (g, c)) hM rfl rfl rfl rfl (by simp)
    (fun b _ hne => setRow_other w g b _ (fun e => hne c (by rw [h5, e]))) (fun g' c' h => by cases h; exact .inl ⟨c, h5⟩) ⟨Nat.le_refl _, rfl, fun _ => ⟨h5.symm, by simp⟩⟩
    (fun hE => ⟨q2, .inr ⟨g, c, _, rfl, ⟨fz, setRow_heap w g cs _ e _ g1, g2.mono rfl (by rw [List.length_set]; exact Nat.le_refl _) (by rw [List.size_toArray, hsize])⟩, by rw [List.length_set]; exact h9, h10, by rw [List.size_toArray, hsize, h11], by
      have := DenCs.mono (fun _ => immOf.ev hE) (fun _ off => immOf.cell hE off) _ _ q1
      have e2 : (cs.toList.take (j * k + off) ++ (a.eval y).cells.toList ++ cs.toList.drop (j * k + off + (a.eval y).cells.toList.length)).take ((es.set j r).length * k)
          = (cs.toList.take (es.length * k)).take (j * k + off) ++ (a.eval y).cells.toList ++ (cs.toList.take (es.length * k)).drop (j * k + off + (a.eval y).cells.toList.length) := by
        rw [List.length_set, List.take_take, Nat.min_eq_left (by omega), List.drop_take]
        rw [List.append_assoc, List.append_assoc, List.take_append, List.take_append]
        rw [List.take_of_length_le (l := cs.toList.take (j * k + off)) (by rw [List.length_take]; omega), List.take_of_length_le (l := (a.eval y).cells.toList) (by rw [List.length_take, hct]; omega)]
        congr 3
        rw [List.length_take, hct]
        omega
      rw [List.toList_toArray, e2]
      exact this⟩⟩)
  rw [hs'] at this
  exact hK _ _ _ this.1 this.2 rfl
end
end Go.Proofs.YtiolnmfaeenlmaaGreatDoor

/- The engine, part 20: calls that are handed own memory (pointers to boxes, own rows). -/
namespace Go.Proofs.YtiolnmfaeenlmaaGreatDoor
open Go Go.RowKit

mutual
def AV.ren (s : Nat → Nat) : AV → AV
  | .ptr i o => .ptr (s i) o
  | .row i v => .row (s i) v
  | .eptr i v j o => .eptr (s i) v j o
  | .dptr l => .dptr (AV.rens s l)
  | .agg l => .agg (AV.rens s l)
  | .tup l => .tup (AV.rens s l)
  | .cnd c x => .cnd c (x.ren s)
  | .cl f l => .cl f (AV.rens s l)
  | .alt x y => .alt (x.ren s) (y.ren s)
  | .any => .any
  | .val v => .val v
  | .sl k es => .sl k es
  | .ub p q => .ub p q
  | .pr p => .pr p
  | .vw i v p => .vw (s i) v p
def AV.rens (s : Nat → Nat) : List AV → List AV
  | [] => []
  | x :: r => x.ren s :: AV.rens s r
end
def AB.ren (s : Nat → Nat) : AB → AB
  | .box e l => .box e (AV.rens s l)
  | .gone => .gone
  | .row v e k es => .row v e k es
  | .iter t p => .iter t p
  | .rowo v e k pre mo l => .rowo v e k pre mo (AV.rens s l)
theorem AB.ren_isRow (s : Nat → Nat) (ab : AB) : (ab.ren s).isRow = ab.isRow := by cases ab <;> rfl
theorem AB.ren_alive (s : Nat → Nat) (ab : AB) : (ab.ren s).alive = ab.alive := by cases ab <;> rfl
theorem AB.ren_rowOk (s : Nat → Nat) (ab : AB) (ver : Nat) (p : Nat → Nat → Prop) : (ab.ren s).rowOk ver p ↔ ab.rowOk ver p := by cases ab <;> exact Iff.rfl
theorem EvE.ren (s : Nat → Nat) {b b' : Option (Nat × Nat)} {x y : AB} (h : EvE b b' x y) : EvE b b' (x.ren s) (y.ren s) := by
  cases x <;> cases y <;> first | exact h | exact h.elim | exact (nomatch h.1) | exact ⟨rfl, h.2⟩

section
variable {M0 M : List AB} {β0 β : Env} {w : World} {imm imm' : Nat → Prop} {s : Nat → Nat} {n : Nat}
mutual
theorem ren_to (hM : ∀ j ab, M0[j]? = some ab → M[s j]? = some (ab.ren s) ∧ β (s j) = β0 j) (hi : ∀ b, imm b → imm' b) : ∀ (x : AV) (v : Value), AVsat M0 β0 w imm x v → AVsat M β w imm' (x.ren s) v
  | .any, _, _ => trivial
  | .val _, _, hx => hx
  | .sl k es, v, hx => DenC.mono hi (fun _ _ _ => rfl) (.sl k es) [v] hx
  | .ptr i off, v, ⟨g, c, h1, h2, ab, h3, h4⟩ => ⟨g, c, (hM i ab h3).2.trans h1, h2, ab.ren s, (hM i ab h3).1, by rw [AB.ren_isRow]; exact h4⟩
  | .row i ver, v, ⟨ab, h1, h2⟩ => ⟨ab.ren s, (hM i ab h1).1, by rw [AB.ren_rowOk, (hM i ab h1).2]; exact h2⟩
  | .eptr i ver j off, v, ⟨ab, h1, h2⟩ => ⟨ab.ren s, (hM i ab h1).1, by rw [AB.ren_rowOk, (hM i ab h1).2]; exact h2⟩
  | .dptr l, v, ⟨g, off, cs, h1, h2, h3, h4⟩ => ⟨g, off, cs, h1, hi _ h2, rens_to hM hi l cs h3, h4⟩
  | .agg l, v, ⟨cs, h1, h2⟩ => ⟨cs, h1, rens_to hM hi l _ h2⟩
  | .tup l, v, ⟨cs, h1, h2⟩ => ⟨cs, h1, rens_to hM hi l _ h2⟩
  | .cnd c x, v, ⟨h1, h2⟩ => ⟨fun hc => ren_to hM hi x v (h1 hc), h2⟩
  | .cl f l, v, ⟨cs, h1, h2⟩ => ⟨cs, h1, rens_to hM hi l _ h2⟩
  | .ub _ _, _, hx => hx
  | .pr _, _, hx => hx
  | .vw i ver p, v, ⟨ab, h1, h2⟩ => ⟨ab.ren s, (hM i ab h1).1, by rw [AB.ren_rowOk, (hM i ab h1).2]; exact h2⟩
  | .alt x y, v, hx => hx.elim (fun k => .inl (ren_to hM hi x v k)) (fun k => .inr (ren_to hM hi y v k))
theorem rens_to (hM : ∀ j ab, M0[j]? = some ab → M[s j]? = some (ab.ren s) ∧ β (s j) = β0 j) (hi : ∀ b, imm b → imm' b) : ∀ (l : List AV) (vs : List Value), AVsats M0 β0 w imm l vs → AVsats M β w imm' (AV.rens s l) vs
  | [], _, hx => hx
  | x :: l, _, ⟨v, r, h1, h2, h3⟩ => ⟨v, r, h1, ren_to hM hi x v h2, rens_to hM hi l r h3⟩
end
mutual
theorem ren_from (hM : ∀ j ab, M0[j]? = some ab → M[s j]? = some (ab.ren s) ∧ β (s j) = β0 j) (hn : M0.length = n) (hi : ∀ b, imm b → imm' b) : ∀ (x : AV) (v : Value), x.under n = true → AVsat M β w imm (x.ren s) v → AVsat M0 β0 w imm' x v
  | .any, _, _, _ => trivial
  | .val _, _, _, hx => hx
  | .sl k es, v, _, hx => DenC.mono hi (fun _ _ _ => rfl) (.sl k es) [v] hx
  | .ptr i off, v, hb, ⟨g, c, h1, h2, ab, h3, h4⟩ => by
    rw [AV.under, Nat.blt_eq, ← hn] at hb
    have h5 : M0[i]? = some M0[i] := List.getElem?_eq_getElem hb
    obtain ⟨h6, h7⟩ := hM i _ h5
    rw [h6] at h3
    cases h3
    rw [AB.ren_isRow] at h4
    exact ⟨g, c, h7.symm.trans h1, h2, _, h5, h4⟩
  | .row i ver, v, hb, ⟨ab, h1, h2⟩ => by
    rw [AV.under, Nat.blt_eq, ← hn] at hb
    have h5 : M0[i]? = some M0[i] := List.getElem?_eq_getElem hb
    obtain ⟨h6, h7⟩ := hM i _ h5
    rw [h6] at h1
    cases h1
    rw [AB.ren_rowOk, h7] at h2
    exact ⟨_, h5, h2⟩
  | .eptr i ver j off, v, hb, ⟨ab, h1, h2⟩ => by
    rw [AV.under, Nat.blt_eq, ← hn] at hb
    have h5 : M0[i]? = some M0[i] := List.getElem?_eq_getElem hb
    obtain ⟨h6, h7⟩ := hM i _ h5
    rw [h6] at h1
    cases h1
    rw [AB.ren_rowOk, h7] at h2
    exact ⟨_, h5, h2⟩
  | .dptr l, v, hb, ⟨g, off, cs, h1, h2, h3, h4⟩ => ⟨g, off, cs, h1, hi _ h2, rens_from hM hn hi l cs (by rw [AV.under] at hb; exact hb) h3, h4⟩
  | .agg l, v, hb, ⟨cs, h1, h2⟩ => ⟨cs, h1, rens_from hM hn hi l _ (by rw [AV.under] at hb; exact hb) h2⟩
  | .tup l, v, hb, ⟨cs, h1, h2⟩ => ⟨cs, h1, rens_from hM hn hi l _ (by rw [AV.under] at hb; exact hb) h2⟩
  | .cnd c x, v, hb, ⟨h1, h2⟩ => ⟨fun hc => ren_from hM hn hi x v (by rw [AV.under] at hb; exact hb) (h1 hc), h2⟩
  | .cl f l, v, hb, ⟨cs, h1, h2⟩ => ⟨cs, h1, rens_from hM hn hi l _ (by rw [AV.under] at hb; exact hb) h2⟩
  | .ub _ _, _, _, hx => hx
  | .pr _, _, _, hx => hx
  | .vw i ver p, v, hb, ⟨ab, h1, h2⟩ => by
    rw [AV.under, Nat.blt_eq, ← hn] at hb
    have h5 : M0[i]? = some M0[i] := List.getElem?_eq_getElem hb
    obtain ⟨h6, h7⟩ := hM i _ h5
    rw [h6] at h1
    cases h1
    rw [AB.ren_rowOk, h7] at h2
    exact ⟨_, h5, h2⟩
  | .alt x y, v, hb, hx => by
    rw [AV.under, Bool.and_eq_true] at hb
    exact hx.elim (fun k => .inl (ren_from hM hn hi x v hb.1 k)) (fun k => .inr (ren_from hM hn hi y v hb.2 k))
theorem rens_from (hM : ∀ j ab, M0[j]? = some ab → M[s j]? = some (ab.ren s) ∧ β (s j) = β0 j) (hn : M0.length = n) (hi : ∀ b, imm b → imm' b) : ∀ (l : List AV) (vs : List Value), AV.unders n l = true → AVsats M β w imm (AV.rens s l) vs → AVsats M0 β0 w imm' l vs
  | [], _, _, hx => hx
  | x :: l, _, hb, ⟨v, r, h1, h2, h3⟩ => by
    rw [AV.unders, Bool.and_eq_true] at hb
    exact ⟨v, r, h1, ren_from hM hn hi x v hb.1 h2, rens_from hM hn hi l r hb.2 h3⟩
end
theorem ent_to (hM : ∀ j ab, M0[j]? = some ab → M[s j]? = some (ab.ren s) ∧ β (s j) = β0 j) (hi : ∀ b, imm b → imm' b) {b : Option (Nat × Nat)} {ab : AB} (h : EntSat M0 β0 w imm b ab) : EntSat M β w imm' b (ab.ren s) := by
  cases ab with
  | gone => trivial
  | box e l => obtain ⟨g, c, cs, h1, h2, h3⟩ := h; exact ⟨g, c, cs, h1, h2, rens_to hM hi _ _ h3⟩
  | iter t p => exact h
  | rowo v e k pre mo l =>
    obtain ⟨q1, q2, g, cap, cs, q3, q4, q5, q6, q7, c1, c2, c3, q8, q9, q10⟩ := h
    have q11 := rens_to hM hi _ _ q10
    exact ⟨q1, by have e1 := q10.len; have e2 := q11.len; omega, g, cap, cs, q3, q4, q5, q6, q7, c1, c2, c3, q8, DenCs.mono hi (fun _ _ _ => rfl) _ _ q9, q11⟩
  | row v e k es =>
    refine ⟨h.1, ?_⟩
    rcases h.2 with h0 | ⟨g, cap, cs, h1, h2, h3, h4, h5, h6⟩
    · exact .inl h0
    · exact .inr ⟨g, cap, cs, h1, h2, h3, h4, h5, DenCs.mono hi (fun _ _ _ => rfl) _ _ h6⟩
theorem ent_from (hM : ∀ j ab, M0[j]? = some ab → M[s j]? = some (ab.ren s) ∧ β (s j) = β0 j) (hn : M0.length = n) (hi : ∀ b, imm b → imm' b) {b : Option (Nat × Nat)} {ab : AB} (hu : ab.under n = true) (h : EntSat M β w imm b (ab.ren s)) : EntSat M0 β0 w imm' b ab := by
  cases ab with
  | gone => trivial
  | box e l => obtain ⟨g, c, cs, h1, h2, h3⟩ := h; exact ⟨g, c, cs, h1, h2, rens_from hM hn hi _ _ hu h3⟩
  | iter t p => exact h
  | rowo v e k pre mo l =>
    obtain ⟨q1, q2, g, cap, cs, q3, q4, q5, q6, q7, c1, c2, c3, q8, q9, q10⟩ := h
    have q11 := rens_from hM hn hi _ _ hu q10
    exact ⟨q1, by have e1 := q10.len; have e2 := q11.len; omega, g, cap, cs, q3, q4, q5, q6, q7, c1, c2, c3, q8, DenCs.mono hi (fun _ _ _ => rfl) _ _ q9, q11⟩
  | row v e k es =>
    refine ⟨h.1, ?_⟩
    rcases h.2 with h0 | ⟨g, cap, cs, h1, h2, h3, h4, h5, h6⟩
    · exact .inl h0
    · exact .inr ⟨g, cap, cs, h1, h2, h3, h4, h5, DenCs.mono hi (fun _ _ _ => rfl) _ _ h6⟩
end

/-- A call that is handed own memory: what it was, what it is behind the call. -/
def MCalls (P : Program) (f : FuncId) (M0 : List AB) (args : List AV) (M1 : List AB) (res : AV) : Prop :=
  ∀ (S : Nat → Prop) (B : Nat) (β : Env) (w : World) (vs : Array Value), MemSat S B M0 β w → AVsats M0 β w (immOf S B M0 β w) args vs.toList →
    Calls P f vs w fun e w' => ∃ v β', e = .returned v ∧ Ev M0 β w M1 β' w' ∧ MemSat S B M1 β' w' ∧ AVsat M1 β' w' (immOf S B M1 β' w') res v

def setAll : List AB → List Nat → List AB → List AB
  | M, i :: is, ab :: r => setAll (M.set i ab) is r
  | M, _, _ => M
theorem setAll_ne : ∀ {σ : List Nat} {M L : List AB} {i : Nat}, i ∉ σ → (setAll M σ L)[i]? = M[i]?
  | [], _, _, _, _ => by rw [setAll]; simp
  | _ :: _, _, [], _, _ => by rw [setAll]; simp
  | j :: σ, M, ab :: L, i, h => by
    simp only [List.mem_cons, not_or] at h
    rw [setAll, setAll_ne h.2, List.getElem?_set_ne (Ne.symm h.1)]
theorem setAll_at : ∀ {σ : List Nat} {M L : List AB} {j i : Nat}, σ.Nodup → σ.length = L.length → σ[j]? = some i → i < M.length → (setAll M σ L)[i]? = L[j]?
  | [], _, _, _, _, _, _, h, _ => by simp at h
  | _ :: _, _, [], _, _, _, h, _, _ => by simp at h
  | i0 :: σ, M, ab :: L, 0, i, hn, hl, h, hi => by
    simp only [List.getElem?_cons_zero, Option.some.injEq] at h
    subst h
    rw [setAll, setAll_ne (List.nodup_cons.1 hn).1, List.getElem?_set_self hi]
    rfl
  | i0 :: σ, M, ab :: L, j + 1, i, hn, hl, h, hi => by
    rw [setAll, setAll_at (List.nodup_cons.1 hn).2 (by simpa using hl) (by simpa using h) (by rw [List.length_set]; exact hi)]
    rfl
/-- The callee's memory stands in the caller's. -/
def EmbM (M : List AB) (s : Nat → Nat) : List Nat → List AB → Prop
  | [], [] => True
  | i :: is, ab :: r => M[i]? = some (ab.ren s) ∧ EmbM M s is r
  | _, _ => False
theorem EmbM.at_ {M : List AB} {s : Nat → Nat} : ∀ {σ : List Nat} {L : List AB} {j : Nat} {ab : AB}, EmbM M s σ L → L[j]? = some ab → ∃ i, σ[j]? = some i ∧ M[i]? = some (ab.ren s)
  | [], [], _, _, _, h => by simp at h
  | i :: is, ab :: r, 0, ab', h, hj => by cases hj; exact ⟨i, rfl, h.1⟩
  | i :: is, ab :: r, j + 1, ab', h, hj => by
    obtain ⟨i', h1, h2⟩ := EmbM.at_ (σ := is) (L := r) (j := j) h.2 (by simpa using hj)
    exact ⟨i', by simpa using h1, h2⟩
  | [], _ :: _, _, _, h, _ => h.elim
  | _ :: _, [], _, _, h, _ => h.elim
theorem EmbM.len {M : List AB} {s : Nat → Nat} : ∀ {σ : List Nat} {L : List AB}, EmbM M s σ L → σ.length = L.length
  | [], [], _ => rfl
  | i :: is, ab :: r, h => by simp [EmbM.len h.2]
  | [], _ :: _, h => h.elim
  | _ :: _, [], h => h.elim
def nth (σ : List Nat) (j : Nat) : Nat := σ.getD j 0
theorem nth_of {σ : List Nat} {j i : Nat} (h : σ[j]? = some i) : nth σ j = i := by simp [nth, h]

section
variable {P : Program} {o : Oper} {M : List AB} {ρ : Operand → AV}
theorem astep_mcall {f : FuncId} {xs : Array Operand} {ts : Array TypeId} {M0 M1 : List AB} {cargs : List AV} {res : AV} (σ : List Nat) (ho : o.op = .call { callee := .value (.func f), args := xs, argTypes := ts }) (hcall : Callable P f) (hc : MCalls P f M0 cargs M1 res)
    (hemb : EmbM M (nth σ) σ M0) (hnd : σ.Nodup) (hargs : Subs (xs.toList.map ρ) (AV.rens (nth σ) cargs)) (hn : M1.length = M0.length)
    (hu : (AV.unders σ.length cargs && M0.all (AB.under σ.length)) = true) : AStep P o M ρ (setAll M σ (M1.map (AB.ren (nth σ)))) (res.ren (nth σ)) := by
  intro S B β a w hm hs K Q hK
  rw [Bool.and_eq_true] at hu
  obtain ⟨hu1, hu2⟩ := hu
  have hlen := hemb.len
  unfold Oper.wp
  rw [run_call hcall ho]
  have h1 := map_sat (l := xs.toList) fun x hx => hs x (mem_call ho hx)
  have h2 := hargs.sat h1
  -- the callee's frame
  have hM : ∀ j ab, M0[j]? = some ab → M[nth σ j]? = some (ab.ren (nth σ)) ∧ β (nth σ j) = (fun j => β (nth σ j)) j := fun j ab hj => by
    obtain ⟨i, k1, k2⟩ := hemb.at_ hj
    refine ⟨?_, rfl⟩
    rw [nth_of k1]
    exact k2
  have hinj : ∀ j k, j < σ.length → k < σ.length → nth σ j = nth σ k → j = k := fun j k hj hk e => by
    have e1 := nth_of (List.getElem?_eq_getElem hj)
    have e2 := nth_of (List.getElem?_eq_getElem hk)
    rw [e1, e2] at e
    exact (List.getElem_inj hnd).1 e
  have hmem : ∀ i, i ∈ σ → ∃ j, j < σ.length ∧ nth σ j = i := fun i hi => by
    obtain ⟨j, hj, e⟩ := List.getElem_of_mem hi
    exact ⟨j, hj, nth_of (by rw [List.getElem?_eq_getElem hj, e])⟩
  have hin : ∀ j, j < σ.length → nth σ j ∈ σ ∧ σ[j]? = some (nth σ j) := fun j hj => by
    have e := nth_of (List.getElem?_eq_getElem hj)
    rw [e]
    exact ⟨List.getElem_mem hj, List.getElem?_eq_getElem hj⟩
  let β0 : Env := fun j => β (nth σ j)
  have hlive0 : ∀ b, live M0 β0 b → live M β b := fun b ⟨j, ab, c, k1, k2, k3⟩ => ⟨nth σ j, ab.ren (nth σ), c, (hM j ab k1).1, by rw [AB.ren_alive]; exact k2, k3⟩
  let S' : Nat → Prop := fun b => immOf S B M β w b ∨ live M0 β0 b
  have hi0 : ∀ b, immOf S B M β w b → immOf S' w.heap.size M0 β0 w b := fun b hb => ⟨.inl (.inl hb), hb.2.1, fun hl => hb.2.2 (hlive0 b hl)⟩
  have hm0 : MemSat S' w.heap.size M0 β0 w := by
    refine ⟨Nat.le_refl _, fun j k ab ab' g c c' k1 k2 k3 l1 l2 l3 => ?_, fun j ab hj => ?_, fun b hl => .inl (.inr hl), hm.gl.mono hi0 (fun _ _ _ => rfl)⟩
    · have e := hm.inj _ _ _ _ g c c' (hM j ab k1).1 (by rw [AB.ren_alive]; exact k2) k3 (hM k ab' l1).1 (by rw [AB.ren_alive]; exact l2) l3
      exact hinj j k (by rw [hlen]; exact (List.getElem?_eq_some_iff.1 k1).1) (by rw [hlen]; exact (List.getElem?_eq_some_iff.1 l1).1) e
    · exact ent_from hM hlen.symm hi0 (List.all_eq_true.1 hu2 ab (List.mem_of_getElem? hj)) (hm.ent _ _ (hM j ab hj).1)
  have hargs0 := rens_from hM hlen.symm hi0 cargs _ hu1 h2
  refine (hc S' w.heap.size β0 w (xs.map a.eval) hm0 (by simpa using hargs0)).mono ?_
  rintro e w' ⟨v, β1, rfl, hE, hm1, hv⟩
  -- the caller's frame behind the call
  let M' := setAll M σ (M1.map (AB.ren (nth σ)))
  let β' : Env := fun i => if i ∈ σ then β1 (σ.idxOf i) else β i
  have hβin : ∀ j, j < σ.length → β' (nth σ j) = β1 j := fun j hj => by
    have e := nth_of (List.getElem?_eq_getElem hj)
    have h3 : σ.idxOf σ[j] = j := hnd.idxOf_getElem j hj
    show (if nth σ j ∈ σ then β1 (σ.idxOf (nth σ j)) else β (nth σ j)) = β1 j
    rw [if_pos (hin j hj).1, e, h3]
  have hβout : ∀ i, i ∉ σ → β' i = β i := fun i hi => if_neg hi
  have hMlt : ∀ j, j < σ.length → nth σ j < M.length := fun j hj => by
    have h3 : M0[j]? = some M0[j] := List.getElem?_eq_getElem (by rw [← hlen]; exact hj)
    exact (List.getElem?_eq_some_iff.1 (hM j _ h3).1).1
  have hMin : ∀ j, j < σ.length → M'[nth σ j]? = (M1[j]?).map (AB.ren (nth σ)) := fun j hj => by
    show (setAll M σ (M1.map (AB.ren (nth σ))))[nth σ j]? = _
    rw [setAll_at hnd (by rw [List.length_map, hn, hlen]) (hin j hj).2 (hMlt j hj), List.getElem?_map]
  have hMout : ∀ i, i ∉ σ → M'[i]? = M[i]? := fun i hi => setAll_ne hi
  have hM1 : ∀ j ab, M1[j]? = some ab → M'[nth σ j]? = some (ab.ren (nth σ)) ∧ β' (nth σ j) = β1 j := fun j ab hj => by
    have hlt : j < σ.length := by rw [hlen, ← hn]; exact (List.getElem?_eq_some_iff.1 hj).1
    exact ⟨by rw [hMin j hlt, hj]; rfl, hβin j hlt⟩
  -- who is alive
  have hsplit : ∀ i ab c b, M'[i]? = some ab → ab.alive = true → β' i = some (b, c) → (∃ j ab1, j < σ.length ∧ nth σ j = i ∧ M1[j]? = some ab1 ∧ ab = ab1.ren (nth σ) ∧ ab1.alive = true ∧ β1 j = some (b, c)) ∨ (i ∉ σ ∧ M[i]? = some ab ∧ β i = some (b, c)) := by
    intro i ab c b k1 k2 k3
    by_cases hi : i ∈ σ
    · obtain ⟨j, hj, rfl⟩ := hmem i hi
      rw [hMin j hj] at k1
      rw [hβin j hj] at k3
      obtain ⟨ab1, k4, k5⟩ := Option.map_eq_some_iff.1 k1
      exact .inl ⟨j, ab1, hj, rfl, k4, k5.symm, by rw [← k5, AB.ren_alive] at k2; exact k2, k3⟩
    · rw [hMout i hi] at k1
      rw [hβout i hi] at k3
      exact .inr ⟨hi, k1, k3⟩
  have hnot0 : ∀ i ab c b, i ∉ σ → M[i]? = some ab → ab.alive = true → β i = some (b, c) → ¬ live M0 β0 b := by
    rintro i ab c b hi k1 k2 k3 ⟨j, ab0, c0, l1, l2, l3⟩
    have hj : j < σ.length := by rw [hlen]; exact (List.getElem?_eq_some_iff.1 l1).1
    have := hm.inj i (nth σ j) ab _ b c c0 k1 k2 k3 (hM j ab0 l1).1 (by rw [AB.ren_alive]; exact l2) l3
    exact hi (this ▸ (hin j hj).1)
  have hEv : Ev M β w M' β' w' := by
    refine ⟨hE.os, hE.tape, hE.output, hE.size, fun b hb hl => hE.keep b hb fun x => hl (hlive0 b x), fun b => ?_, fun i ab hi => ?_⟩
    · rintro ⟨i, ab, c, k1, k2, k3⟩
      rcases hsplit i ab c b k1 k2 k3 with ⟨j, ab1, hj, _, l1, _, l2, l3⟩ | ⟨_, l1, l2⟩
      · rcases hE.new b ⟨j, ab1, c, l1, l2, l3⟩ with h3 | h3
        · exact .inl (hlive0 b h3)
        · exact .inr h3
      · exact .inl ⟨i, ab, c, l1, k2, l2⟩
    · by_cases his : i ∈ σ
      · obtain ⟨j, hj, rfl⟩ := hmem i his
        have h3 : M0[j]? = some M0[j] := List.getElem?_eq_getElem (by rw [← hlen]; exact hj)
        obtain ⟨h4, _⟩ := hM j _ h3
        rw [h4] at hi; cases hi
        obtain ⟨ab1, h5, h6⟩ := hE.ent j _ h3
        obtain ⟨h7, h8⟩ := hM1 j ab1 h5
        exact ⟨_, h7, by rw [h8]; exact h6.ren _⟩
      · exact ⟨ab, by rw [hMout i his]; exact hi, by rw [hβout i his]; exact EvE.refl _ _⟩
  have himm : ∀ b, immOf S' w.heap.size M1 β1 w' b → immOf S B M' β' w' b := by
    rintro b ⟨k1, k2, k3⟩
    refine ⟨?_, k2, ?_⟩
    · rcases k1 with (h3 | h3) | h3
      · exact h3.1
      · exact hm.own b (hlive0 b h3)
      · exact .inr (Nat.le_trans hm.lo h3)
    · rintro ⟨i, ab, c, l1, l2, l3⟩
      rcases hsplit i ab c b l1 l2 l3 with ⟨j, ab1, hj, _, p1, _, p2, p3⟩ | ⟨p0, p1, p2⟩
      · exact k3 ⟨j, ab1, c, p1, p2, p3⟩
      · have hl : live M β b := ⟨i, ab, c, p1, l2, p2⟩
        rcases k1 with (h3 | h3) | h3
        · exact h3.2.2 hl
        · exact hnot0 i ab c b p0 p1 l2 p2 h3
        · have := hm.lt hl; omega
  have hmem' : MemSat S B M' β' w' := by
    refine ⟨Nat.le_trans hm.lo hE.size, fun i k ab ab' g c c' k1 k2 k3 l1 l2 l3 => ?_, fun i ab hi => ?_, fun b hl => (hEv.new b hl).elim (hm.own b) (fun hb => .inr (Nat.le_trans hm.lo hb)), GL.ev hEv hm.gl⟩
    · have cross : ∀ (j : Nat) (ab1 : AB) (c c' : Nat) (i : Nat) (ab : AB), M1[j]? = some ab1 → ab1.alive = true → β1 j = some (g, c) → i ∉ σ → M[i]? = some ab → ab.alive = true → β i = some (g, c') → False := by
        intro j ab1 c c' i ab p1 p2 p3 q0 q1 q2 q3
        rcases hE.new g ⟨j, ab1, c, p1, p2, p3⟩ with h3 | h3
        · exact hnot0 i ab c' g q0 q1 q2 q3 h3
        · have := hm.lt ⟨i, ab, c', q1, q2, q3⟩; omega
      rcases hsplit i ab c g k1 k2 k3 with ⟨j, ab1, hj, rfl, p1, _, p2, p3⟩ | ⟨p0, p1, p2⟩ <;> rcases hsplit k ab' c' g l1 l2 l3 with ⟨j', ab1', hj', rfl, q1, _, q2, q3⟩ | ⟨q0, q1, q2⟩
      · rw [hm1.inj j j' ab1 ab1' g c c' p1 p2 p3 q1 q2 q3]
      · exact (cross j ab1 c c' k ab' p1 p2 p3 q0 q1 l2 q2).elim
      · exact (cross j' ab1' c' c i ab q1 q2 q3 p0 p1 k2 p2).elim
      · exact hm.inj i k ab ab' g c c' p1 k2 p2 q1 l2 q2
    · by_cases his : i ∈ σ
      · obtain ⟨j, hj, rfl⟩ := hmem i his
        rw [hMin j hj] at hi
        obtain ⟨ab1, h5, h6⟩ := Option.map_eq_some_iff.1 hi
        rw [← h6, hβin j hj]
        exact ent_to hM1 himm (hm1.ent j ab1 h5)
      · rw [hMout i his] at hi
        rw [hβout i his]
        refine EntSat.ev hEv (fun g c hg ha => hE.keep g (hm.lt ⟨i, ab, c, hi, ha, hg⟩) (hnot0 i ab c g his hi ha hg)) (hm.ent i ab hi)
  exact hK v β' w' hEv hmem' (ren_to hM1 himm res v hv)
end

/-- What a body hands back that was handed own memory. -/
inductive RetW (P : Program) (s : AS) (n : Nat) : ResultVar → AV → Prop
  | tmp {t : Tmp} {x : AV} (h : Sub (look s.F t) x) (hf : (look s.F t).under n = true) : RetW P s n (.tmp t) x
  | row {t : Tmp} {i ver e k : Nat} {es : List D} (hp : look s.F t = .row i ver) (hM : s.M[i]? = some (.row ver e k es)) (hi : Nat.ble n i = true) : RetW P s n (.tmp t) (.sl k es)
  | cell {t : Tmp} {ty : TypeId} {te : TE} {i off : Nat} {e : TypeId} {cells : List AV} {x : AV} (hte : teOf P ty = some te) (hp : look s.F t = .ptr i off) (hM : s.M[i]? = some (.box e cells)) (hx : loadAV te (cells.drop off) = some x) (hf : x.under n = true) : RetW P s n (.cell t ty) x
inductive RetWs (P : Program) (s : AS) (n : Nat) : List ResultVar → List AV → Prop
  | nil : RetWs P s n [] []
  | cons {r : ResultVar} {rs : List ResultVar} {x : AV} {xs : List AV} (h : RetW P s n r x) (hs : RetWs P s n rs xs) : RetWs P s n (r :: rs) (x :: xs)
def retM (P : Program) (fn : Func) (n : Nat) (M1 : List AB) (res : AV) (e : Exit) (s : AS) : Prop :=
  (e = .normal ∨ e = .ret) ∧ s.M.take n = M1 ∧ M1.all (AB.under n) = true ∧ ∃ xs, RetWs P s n fn.results.toList xs ∧ Sub (tupOf xs) res

section
variable {P : Program} {S : Nat → Prop} {B n : Nat} {s : AS} {a : Act} {w : World} {β : Env}
theorem imm_cut {M : List AB} (b : Nat) (h : immOf S B M β w b) : immOf S B (M.take n) β w b := ⟨h.1, h.2.1, fun hl => h.2.2 (live_cut hl)⟩
theorem mem_cut {M : List AB} (hm : MemSat S B M β w) (hu : (M.take n).all (AB.under n) = true) : MemSat S B (M.take n) β w := by
  have old : ∀ {i ab}, (M.take n)[i]? = some ab → M[i]? = some ab := fun {i ab} h => by
    rw [List.getElem?_take] at h
    split at h
    · exact h
    · cases h
  refine ⟨hm.lo, fun i j ab ab' g c c' k1 k2 k3 k4 => hm.inj i j ab ab' g c c' (old k1) k2 k3 (old k4), fun i ab hi => ?_, fun b hl => hm.own b (live_cut hl), hm.gl.mono imm_cut (fun _ _ _ => rfl)⟩
  have he := hm.ent i ab (old hi)
  have hbl : ab.under n = true := List.all_eq_true.1 hu ab (List.mem_of_getElem? hi)
  cases ab with
  | gone => trivial
  | iter _ _ => exact he
  | rowo v e k pre mo l =>
    obtain ⟨q1, q2, g, cap, cs, q3, q4, q5, q6, q7, c1, c2, c3, q8, q9, q10⟩ := he
    exact ⟨q1, q2, g, cap, cs, q3, q4, q5, q6, q7, c1, c2, c3, q8, DenCs.mono imm_cut (fun _ _ _ => rfl) _ _ q9, AVsats.cut imm_cut _ _ hbl q10⟩
  | box e cells =>
    obtain ⟨g, c, cs, k1, k2, k3⟩ := he
    exact ⟨g, c, cs, k1, k2, AVsats.cut imm_cut _ _ hbl k3⟩
  | row v e k es =>
    refine ⟨he.1, ?_⟩
    rcases he.2 with h0 | ⟨g, cap, cs, k1, k2, k3, k4, k5, k6⟩
    · exact .inl h0
    · exact .inr ⟨g, cap, cs, k1, k2, k3, k4, k5, DenCs.mono imm_cut (fun _ _ _ => rfl) _ _ k6⟩
theorem run_retW (hm : MemSat S B s.M β w) (hF : ∀ d, AVsat s.M β w (immOf S B s.M β w) (look s.F d) (a.tmps.getD d undef)) {r : ResultVar} {x : AV} (h : RetW P s n r x) :
    ∃ v, (resSem a.tmps r).run P w = .ok v w ∧ AVsat (s.M.take n) β w (immOf S B (s.M.take n) β w) x v := by
  cases h with
  | tmp h hf => exact ⟨_, rfl, h _ _ _ _ _ (AVsat.cut imm_cut _ _ hf (hF _))⟩
  | @cell t ty te i off e cells x hte hp hMi hx hf =>
    have h1 := hF t
    rw [hp] at h1
    obtain ⟨g, c, h2, h3, _⟩ := h1
    obtain ⟨g', c', cs, h4, h5, h6⟩ := box_cells hm hMi
    rw [h2] at h4; cases h4
    obtain ⟨v, h7, h8⟩ := run_loadVar hte (h6.drop_ off) (fun j u hj => cell_at h5 off j u hj) hx
    refine ⟨v, ?_, AVsat.cut imm_cut _ _ hf h8⟩
    simp only [resSem, h3]
    simp [asAddr, h7]
  | @row t i ver e k es hp hM hi =>
    have h1 := hF t
    rw [hp] at h1
    have hi := Nat.le_of_ble_eq_true hi
    refine ⟨_, rfl, ?_⟩
    obtain ⟨ab, h2, h3⟩ := h1
    rw [hM] at h2; cases h2
    have h3 := h3.2 rfl
    obtain ⟨hw, ⟨h4, rfl⟩ | ⟨g, cap, cs, h4, h5, h6, h7, h8, h9⟩⟩ := hm.ent i _ hM
    · rw [h4] at h3
      exact ⟨none, 0, 0, by rw [h3]; rfl, rfl, Nat.le_refl _, Nat.zero_le _, hw, fun h => absurd h (by omega)⟩
    · rw [h4] at h3
      refine ⟨some ⟨g, 0, none⟩, es.length, cap, by rw [h3]; rfl, rfl, h6, h7, hw, fun _ => ⟨g, 0, _, rfl, ⟨hm.own g ⟨i, _, cap, hM, rfl, h4⟩, heap_lt h5.choose_spec.1, ?_⟩, DenCs.mono imm_cut (fun _ _ _ => rfl) _ _ h9, fun j u hj => ?_⟩⟩
      · rintro ⟨j, ab', c, k1, k2, k3⟩
        rw [List.getElem?_take] at k1
        split at k1
        · have := hm.inj i j _ _ g cap c hM rfl h4 k1 k2 k3
          omega
        · cases k1
      · rw [List.getElem?_take] at hj
        split at hj
        · rw [Nat.zero_add, h5.cell]
          simpa using hj
        · cases hj
theorem run_retWs (hm : MemSat S B s.M β w) (hF : ∀ d, AVsat s.M β w (immOf S B s.M β w) (look s.F d) (a.tmps.getD d undef)) {rs : List ResultVar} {xs : List AV} (h : RetWs P s n rs xs) :
    ∃ vs, (rs.mapM (resSem a.tmps)).run P w = .ok vs w ∧ AVsats (s.M.take n) β w (immOf S B (s.M.take n) β w) xs vs := by
  induction h with
  | nil => exact ⟨[], by simp, rfl⟩
  | cons h hs ih =>
    obtain ⟨v, h1, h2⟩ := run_retW hm hF h
    obtain ⟨vs, h3, h4⟩ := ih
    exact ⟨v :: vs, by simp [List.mapM_cons, h1, h3], v, vs, rfl, h2, h4⟩
end
theorem argF_satM {M : List AB} {β : Env} {w : World} {imm : Nat → Prop} {args : List AV} {vs : Array Value} {N : Nat} (h : AVsats M β w imm args vs.toList) (d : Nat) :
    AVsat M β w imm (look (argF 0 args) d) ((vs ++ Array.replicate (N - vs.size) undef).getD d undef) := by
  have := argF_sat (pre := []) (tail := List.replicate (N - vs.size) undef) (d := d) h
  rw [Array.getD_eq_getD_getElem?]
  rw [← Array.getElem?_toList]
  simpa using this

/-- A contract from a walk, own memory handed in. -/
theorem mcalls_of {P : Program} {f : FuncId} {fn : Func} {c : Code} {M0 M1 : List AB} {args : List AV} {res : AV} {N : Nat} {F : List (Nat × AV)} (hf : P.funcs[f]? = some fn) (hN : fn.ntmps = N) (hb : fn.body = some c) (hF : nfF (argF 0 args) = some F) (hok : Nat.ble args.length N = true)
    (h : ∀ S w β, AWp ⟨P, N, S, w, M0, β, none⟩ c ⟨M0, F⟩ (retM P fn M0.length M1 res)) : MCalls P f M0 args M1 res := by
  intro S B β w vs hm hvs
  have hlen := Nat.le_of_ble_eq_true hok
  have hvl := hvs.len
  subst hN
  have hF := nfF_eq hF
  subst hF
  let S' : Nat → Prop := fun b => S b ∨ B ≤ b
  have hi0 : ∀ b, immOf S B M0 β w b → immOf S' w.heap.size M0 β w b := fun b hb => ⟨.inl hb.1, hb.2⟩
  have hm0 : MemSat S' w.heap.size M0 β w := ⟨Nat.le_refl _, hm.inj, fun i ab hi => by
    have he := hm.ent i ab hi
    cases ab with
    | gone => trivial
    | iter _ _ => exact he
    | rowo v e k pre mo l =>
      obtain ⟨q1, q2, g, cap, cs, q3, q4, q5, q6, q7, c1, c2, c3, q8, q9, q10⟩ := he
      exact ⟨q1, q2, g, cap, cs, q3, q4, q5, q6, q7, c1, c2, c3, q8, DenCs.mono hi0 (fun _ _ _ => rfl) _ _ q9, q10.mono (Ev.refl _ _ _) hi0 (fun _ _ _ => rfl)⟩
    | box e cells => obtain ⟨g, c, cs, k1, k2, k3⟩ := he; exact ⟨g, c, cs, k1, k2, k3.mono (Ev.refl _ _ _) hi0 (fun _ _ _ => rfl)⟩
    | row v e k es =>
      refine ⟨he.1, ?_⟩
      rcases he.2 with h0 | ⟨g, cap, cs, k1, k2, k3, k4, k5, k6⟩
      · exact .inl h0
      · exact .inr ⟨g, cap, cs, k1, k2, k3, k4, k5, DenCs.mono hi0 (fun _ _ _ => rfl) _ _ k6⟩, fun b hl => .inl (hm.own b hl), hm.gl.mono hi0 (fun _ _ _ => rfl)⟩
  have hs0 : Sat ⟨P, fn.ntmps, S', w, M0, β, none⟩ ⟨M0, argF 0 args⟩ { tmps := vs ++ Array.replicate (fn.ntmps - vs.size) undef, defers := [] } w :=
    ⟨by simp at hvl ⊢; omega, trivial, β, hm0, Ev.refl _ _ _, fun d => argF_satM (AVsats.mono (Ev.refl _ _ _) hi0 (fun _ _ _ => rfl) _ _ hvs) d⟩
  refine calls_of_awp (cx := ⟨P, fn.ntmps, S', w, M0, β, none⟩) rfl hf hb (h S' w β) hs0 fun e s' a' w' ⟨he, hM1, hu, xs, hr, hsub⟩ ⟨h1, _, β', h3, h4, h5⟩ => ⟨he, fun _ => ?_⟩
  obtain ⟨vs', h6, h7⟩ := run_retWs (P := P) (n := M0.length) h3 h5 hr
  subst hM1
  have himm : ∀ b, immOf S' w.heap.size (s'.M.take M0.length) β' w' b → immOf S B (s'.M.take M0.length) β' w' b := fun b hb => ⟨hb.1.elim id (fun h => .inr (Nat.le_trans hm.lo h)), hb.2⟩
  have hmc := mem_cut h3 hu
  have hm1 : MemSat S B (s'.M.take M0.length) β' w' := ⟨Nat.le_trans hm.lo h4.size, hmc.inj, fun i ab hi => by
    have he := hmc.ent i ab hi
    cases ab with
    | gone => trivial
    | iter _ _ => exact he
    | rowo v e k pre mo l =>
      obtain ⟨q1, q2, g, cap, cs, q3, q4, q5, q6, q7, c1, c2, c3, q8, q9, q10⟩ := he
      exact ⟨q1, q2, g, cap, cs, q3, q4, q5, q6, q7, c1, c2, c3, q8, DenCs.mono himm (fun _ _ _ => rfl) _ _ q9, q10.mono (Ev.refl _ _ _) himm (fun _ _ _ => rfl)⟩
    | box e cells => obtain ⟨g, c, cs, k1, k2, k3⟩ := he; exact ⟨g, c, cs, k1, k2, k3.mono (Ev.refl _ _ _) himm (fun _ _ _ => rfl)⟩
    | row v e k es =>
      refine ⟨he.1, ?_⟩
      rcases he.2 with h0 | ⟨g, cap, cs, k1, k2, k3, k4, k5, k6⟩
      · exact .inl h0
      · exact .inr ⟨g, cap, cs, k1, k2, k3, k4, k5, DenCs.mono himm (fun _ _ _ => rfl) _ _ k6⟩, fun b hl => (hmc.own b hl).elim id (fun h => .inr (Nat.le_trans hm.lo h)), hmc.gl.mono himm (fun _ _ _ => rfl)⟩
  have hEv : Ev M0 β w (s'.M.take M0.length) β' w' := ⟨h4.os, h4.tape, h4.output, h4.size, h4.keep, fun b hb => h4.new b (live_cut hb), fun i ab hi => by
    obtain ⟨ab', k1, k2⟩ := h4.ent i ab hi
    exact ⟨ab', by rw [List.getElem?_take_of_lt (List.getElem?_eq_some_iff.1 hi).1]; exact k1, k2⟩⟩
  have h8 := AVsats.mono (Ev.refl _ _ _) himm (fun _ _ _ => rfl) _ _ h7
  have h9 : ∃ v, (results fn a'.tmps).run P w' = .ok v w' ∧ AVsat (s'.M.take M0.length) β' w' (immOf S B (s'.M.take M0.length) β' w') (tupOf xs) v := by
    rw [results_eq]
    refine ⟨if h : vs'.toArray.size = 1 then vs'.toArray[0] else .tuple vs'.toArray, by simp [h6], ?_⟩
    have hl := h8.len
    match xs, vs', hl, h8 with
    | [], [], _, h8 => exact ⟨#[], rfl, h8⟩
    | [x], [v], _, ⟨_, _, e, h3, _⟩ => cases e; exact h3
    | x :: y :: xs, v :: u :: vs, _, h8 => exact ⟨_, rfl, h8⟩
  obtain ⟨v, h10, h11⟩ := h9
  have h12 : ∃ v, (results fn a'.tmps).run P w' = .ok v w' ∧ ∃ v' β'', Ending.returned v = .returned v' ∧ Ev M0 β w (s'.M.take M0.length) β'' w' ∧ MemSat S B (s'.M.take M0.length) β'' w' ∧ AVsat (s'.M.take M0.length) β'' w' (immOf S B (s'.M.take M0.length) β'' w') res v' :=
    ⟨v, h10, v, β', rfl, hEv, hm1, hsub _ _ _ _ _ h11⟩
  exact h12
end Go.Proofs.YtiolnmfaeenlmaaGreatDoor

/- The engine, part 21: the rules of strings, elements, cuts, calls with own memory; strings.Builder's operations. -/
namespace Go.Proofs.YtiolnmfaeenlmaaGreatDoor
open Go Go.RowKit

section
variable {P : Program} {o : Oper} {M M' : List AB} {ρ : Operand → AV} {out : AV} {tab : List (Nat × TE)}
/-- A part of a slice that is data. -/
theorem elem_of {P : Program} {T e : Nat} (h : P.underlying T = some (.slice e)) : P.underlying T = some (.slice (P.elem T)) ∧ P.elem T = e := by
  have : P.elem T = e := by simp [Program.elem, h]
  rw [this]
  exact ⟨h, rfl⟩
def cutLo (ρ : Operand → AV) : Option Operand → Option (Option Int)
  | none => some none
  | some x => match ρ x with
    | .val (.int _ n) => some (some n)
    | _ => none
theorem cut_sat {w : World} {imm : Nat → Prop} {k l h m c : Nat} {es : List D} {A : Option Addr} (hd : DenC w imm (.sl k es) [.slice A m c]) (hl : l ≤ h) (hh : h ≤ es.length) : DenC w imm (.sl k ((es.take h).drop l)) [sliced A l h c k] := by
  obtain ⟨A', n', c', e1, e2, e3, e4, e5, e6⟩ := hd
  simp only [List.cons.injEq, Value.slice.injEq, and_true] at e1
  obtain ⟨rfl, rfl, rfl⟩ := e1
  have hlen : ((es.take h).drop l).length = h - l := by simp; omega
  refine ⟨_, h - l, c - l, rfl, hlen.symm, by omega, by omega, fun d hd => e5 d (List.mem_of_mem_take (List.mem_of_mem_drop hd)), fun hp => ?_⟩
  obtain ⟨g, off, rows, rfl, k2, k3, k4⟩ := e6 (by omega)
  have hcl : ¬ c = l := by omega
  refine ⟨g, off + l * k, (rows.take (h * k)).drop (l * k), by simp [hcl, addr_add], k2, (k3.take_ e5).drop_ (fun d hd => e5 d (List.mem_of_mem_take hd)), fun j u hj => ?_⟩
  rw [List.getElem?_drop, List.getElem?_take] at hj
  split at hj
  · rw [Nat.add_assoc]; exact k4 _ _ hj
  · cases hj
theorem astep_cut (ht : TyTab P tab) {T e : Nat} {ee : TE} {x : Operand} {lo hi : Option Operand} {l h : Option Int} {es : List D} (ho : o.op = .slice T x lo hi none) (hT : elemOf_ tab T = some (e, ee)) (hx : ρ x = .sl ee.size es) (hlo : cutLo ρ lo = some l) (hhi : cutLo ρ hi = some h)
    (h0 : 0 ≤ l.getD 0) (h1 : l.getD 0 ≤ h.getD es.length) (h2 : h.getD es.length ≤ (es.length : Int)) : AStep P o M ρ M (.sl ee.size ((es.take (h.getD es.length).toNat).drop (l.getD 0).toNat)) :=
  .value fun S B β a w _ hs => by
    have hx1 := hs x (by simp [ho, Op.operands])
    rw [hx] at hx1
    have hd := hx1
    obtain ⟨A, n, c, e1, e2, e3, e4, e5, e6⟩ := hx1
    subst e2
    simp only [List.cons.injEq, and_true] at e1
    rw [e1] at hd
    obtain ⟨hu, he⟩ := elemOf_spec ht hT
    obtain ⟨hu', he'⟩ := elem_of hu
    have hsz := run_sizeOf (P := P) (w := w) he
    rw [← he'] at hsz
    have hcut := cut_sat hd (l := (l.getD 0).toNat) (h := (h.getD es.length).toNat) (by omega) (by omega)
    refine ⟨_, ?_, hcut⟩
    have elo : ∀ y, lo = some y → ∃ q n, l = some n ∧ a.eval y = .int q n := fun y hy => by
      subst hy
      have h3 := hs y (by simp [ho, Op.operands])
      simp only [cutLo] at hlo
      split at hlo
      · rename_i q n hq; cases hlo; rw [hq] at h3; exact ⟨q, n, rfl, h3⟩
      · cases hlo
    have ehi : ∀ y, hi = some y → ∃ q n, h = some n ∧ a.eval y = .int q n := fun y hy => by
      subst hy
      have h3 := hs y (by cases lo <;> simp [ho, Op.operands])
      simp only [cutLo] at hhi
      split at hhi
      · rename_i q n hq; cases hhi; rw [hq] at h3; exact ⟨q, n, rfl, h3⟩
      · cases hhi
    simp only [execOp, ho, e1]
    simp only [Sem.run_bind, run_sliceAt_slice _ _ _ _ _ _ hu']
    cases lo with
    | none =>
      simp only [cutLo, Option.some.injEq] at hlo
      subst hlo
      cases hi with
      | none =>
        simp only [cutLo, Option.some.injEq] at hhi
        subst hhi
        have e := run_slice_all (P := P) w T A es.length c hu'
        simp [e, hsz]
      | some y =>
        obtain ⟨q, n', rfl, h3⟩ := ehi y rfl
        simp only [Option.getD_some, Option.getD_none] at h0 h1 h2
        have e := run_slice_h (P := P) w T A es.length c hu' q n' (by omega) (by omega)
        simp [h3, e, hsz]
    | some z =>
      obtain ⟨q0, n0, rfl, h3⟩ := elo z rfl
      cases hi with
      | none =>
        simp only [cutLo, Option.some.injEq] at hhi
        subst hhi
        simp only [Option.getD_some, Option.getD_none] at h0 h1 h2
        have e := run_slice_l (P := P) w T A es.length c hu' q0 n0 h0 (by omega)
        simp [h3, e, hsz]
      | some y =>
        obtain ⟨q, n', rfl, h4⟩ := ehi y rfl
        simp only [Option.getD_some] at h0 h1 h2
        have e := run_slice_lh (P := P) w T A es.length c hu' q0 q n0 n' h0 h1 (by omega)
        simp [h3, h4, e, hsz]

theorem astep_cut_map (ht : TyTab P tab) {α : Type} {f : α → D} {l : List α} {T e : Nat} {ee : TE} {x : Operand} {lo hi : Option Operand} {a b : Option Int} (ho : o.op = .slice T x lo hi none) (hT : elemOf_ tab T = some (e, ee)) (hx : ρ x = .sl ee.size (l.map f)) (hlo : cutLo ρ lo = some a) (hhi : cutLo ρ hi = some b)
    (hb : 0 ≤ a.getD 0 ∧ a.getD 0 ≤ b.getD l.length ∧ b.getD l.length ≤ (l.length : Int)) : AStep P o M ρ M (.sl ee.size (((l.take (b.getD l.length).toNat).drop (a.getD 0).toNat).map f)) := by
  have := astep_cut (P := P) (M := M) (ρ := ρ) ht ho hT hx hlo hhi hb.1 (by simpa using hb.2.1) (by simpa using hb.2.2)
  rw [List.length_map, ← List.map_take, ← List.map_drop] at this
  exact this
theorem astep_store_map (ht : TyTab P tab) {α : Type} {f : α → D} {l : List α} (x0 : α) {T i ver j off e k' : Nat} {te : TE} {xd : D} {x y : Operand} (ho : o.op = .store T x y) (hT : tget tab T = some te) (hx : ρ x = .eptr i ver j off) (hM : M[i]? = some (.row ver e k' (l.map f))) (hj : j < l.length)
    (hy : toD (ρ y) = some xd) (h1c : oneCs (cellsOf (ρ y)) = true) (hsz : xd.width = te.size) (hput : putD xd (f (l[j]'hj)) off = some (f x0)) (hv : sealed ver = false) : AStep P o M ρ (M.set i (.row ver e k' ((l.set j x0).map f))) (.val undef) := by
  rw [List.map_set]
  exact astep_store_e ht ho hT hx hM (map_get hj) hy h1c hsz hput hv

/-- strings.Builder's own check. -/
def selfP : AV := .alt (.val (.pointer none)) (.ptr 0 0)
/-- unsafe.SliceData, unsafe.String of an own row of bytes. -/
theorem astep_usd {T e' i ver e k : Nat} {es : List D} {x : Operand} (ho : o.op = .call { callee := .builtin .unsafeSliceData, args := #[x], argTypes := #[T] }) (hx : ρ x = .row i ver) (hM : M[i]? = some (.row ver e k es)) (hne : es ≠ []) : AStep P o M ρ M (.eptr i ver 0 0) :=
  .value fun S B β a w hm hs => by
    have h1 := hs x (by simp [ho, Op.operands, Call.operands])
    rw [hx] at h1
    obtain ⟨h2, h3⟩ := row_val hm hM h1
    cases hb : β i with
    | none => exact absurd (h3 hb) hne
    | some gc =>
      obtain ⟨g, c⟩ := gc
      obtain ⟨hw, ⟨h7, _⟩ | ⟨g', c', cs, h7, h8, h9, _⟩⟩ := hm.ent i _ hM
      · rw [hb] at h7; cases h7
      · rw [hb] at h7; cases h7
        have hlen : 0 < es.length := List.length_pos_iff.2 hne
        rw [hb] at h2
        refine ⟨.pointer (some ⟨g, 0, none⟩), ?_, .row ver e k es, hM, Nat.le_refl _, fun _ => ⟨g, c, hb, by simp⟩⟩
        have := Lib.run_unsafeSliceData_row (P := P) w #[T] o.type ⟨g, 0, none⟩ es.length c (by omega)
        simp [execOp, ho, h2, rowVal, resolve, invoke, builtin, this]
/-- A pointer to some place, or nil. -/
def someP (i ver : Nat) : AV := .alt (.val (.pointer none)) (.alt (.eptr i ver 0 0) (.dptr []))
theorem astep_usd0 {T e' i ver e k : Nat} {x : Operand} (hty : P.underlying o.type = some (.pointer e')) (ho : o.op = .call { callee := .builtin .unsafeSliceData, args := #[x], argTypes := #[T] }) (hx : ρ x = .row i ver) (hM : M[i]? = some (.row ver e k [])) : AStep P o M ρ M (someP i ver) :=
  .grows fun S B β a w hm hs => by
    have h1 := hs x (by simp [ho, Op.operands, Call.operands])
    rw [hx] at h1
    obtain ⟨h2, _⟩ := row_val hm hM h1
    cases hb : β i with
    | none =>
      rw [hb] at h2
      refine ⟨.pointer none, w, ?_, Below.refl _ _, fun _ => .inl rfl⟩
      have := Lib.run_unsafeSliceData_nil (P := P) w #[T] o.type 0 0
      simp [execOp, ho, h2, rowVal, resolve, invoke, builtin, this]
    | some gc =>
      obtain ⟨g, c⟩ := gc
      rw [hb] at h2
      obtain ⟨hw, ⟨h7, _⟩ | ⟨g', c', cs, h7, ⟨fz, h8, _⟩, h9, _⟩⟩ := hm.ent i _ hM
      · rw [hb] at h7; cases h7
      · rw [hb] at h7; cases h7
        by_cases hc : c = 0
        · subst hc
          refine ⟨.pointer (some ⟨w.heap.size, 0, none⟩), w.alloc (.view ⟨g, 0, none⟩ e'), ?_, (Below.refl _ _).alloc (Nat.le_refl _) _, fun hE => .inr (.inr ⟨w.heap.size, 0, [], rfl, ⟨.inr hm.lo, by simp, fun hl => ?_⟩, rfl, fun j u hj => by simp at hj⟩)⟩
          · have := Lib.run_unsafeSliceData_zero (P := P) w #[T] o.type e' hty ⟨g, 0, none⟩ 0 (e, cs.size) (by simp [World.shape?, h8])
            simp [execOp, ho, h2, rowVal, resolve, invoke, builtin, this]
          · have := hm.lt hl; omega
        · refine ⟨.pointer (some ⟨g, 0, none⟩), w, ?_, Below.refl _ _, fun _ => .inr (.inl ⟨.row ver e k [], hM, Nat.le_refl _, fun _ => ⟨g, c, hb, by simp⟩⟩)⟩
          have := Lib.run_unsafeSliceData_row (P := P) w #[T] o.type ⟨g, 0, none⟩ 0 c hc
          simp [execOp, ho, h2, rowVal, resolve, invoke, builtin, this]
theorem astep_ustr0 {T U i ver e k : Nat} {x y : Operand} (ho : o.op = .call { callee := .builtin .unsafeString, args := #[x, y], argTypes := #[T, U] }) (hx : ρ x = someP i ver) (hy : ρ y = .val (.int .i64 0)) (hM : M[i]? = some (.row ver e k [])) : AStep P o M ρ M (.val (.string ⟨#[]⟩)) :=
  .value fun S B β a w hm hs => by
    have h1 := hs x (by simp [ho, Op.operands, Call.operands])
    have h2 := hs y (by simp [ho, Op.operands, Call.operands])
    rw [hx] at h1; rw [hy] at h2
    have h2 : a.eval y = .int .i64 0 := h2
    have h3 : ∃ p, a.eval x = .pointer p := by
      rcases h1 with h1 | ⟨ab, k1, k2⟩ | ⟨g, off, cs, k1, _⟩
      · exact ⟨_, h1⟩
      · rw [hM] at k1; cases k1
        obtain ⟨g, c, _, k3⟩ := k2.2 rfl
        exact ⟨_, k3⟩
      · exact ⟨_, k1⟩
    obtain ⟨p, h3⟩ := h3
    refine ⟨.string .empty, ?_, rfl⟩
    have := Lib.run_unsafeString_none (P := P) w T U o.type p
    simp [execOp, ho, h2, h3, resolve, invoke, builtin, this]
theorem astep_ustr {T U i ver e : Nat} {x y : Operand} {l : List UInt8} (ht : P.underlying T = some (.pointer e)) (hce : P.cellsOf e = 1) (ho : o.op = .call { callee := .builtin .unsafeString, args := #[x, y], argTypes := #[T, U] }) (hx : ρ x = .eptr i ver 0 0) (hy : ρ y = .val (.int .i64 (l.map bD).length))
    (hM : M[i]? = some (.row ver e 1 (l.map bD))) (hne : l ≠ []) : AStep P o M ρ (M.set i .gone) (.val (.string ⟨l.toArray⟩)) := by
  intro S B β a w hm hs K Q hK
  have h1 := hs x (by simp [ho, Op.operands, Call.operands])
  have h2 := hs y (by simp [ho, Op.operands, Call.operands])
  rw [hx] at h1; rw [hy] at h2
  rw [List.length_map] at h2
  have h2 : a.eval y = .int .i64 l.length := h2
  obtain ⟨ab, k1, k2⟩ := h1
  rw [hM] at k1; cases k1
  obtain ⟨g, c, hb, k3⟩ := k2.2 rfl
  obtain ⟨hw, ⟨h7, _⟩ | ⟨g', c', cs, h7, h8, h9, h10, h11, h12⟩⟩ := hm.ent i _ hM
  · rw [hb] at h7; cases h7
  rw [hb] at h7; cases h7
  have hrows := DenCs_bytes_eq h12
  have h8' := h8
  obtain ⟨fz, g1, _⟩ := h8'
  rw [List.length_map] at h9
  have hr := Lib.run_unsafeString_row (P := P) w T U o.type e ht hce g cs.size (by simp [World.shape?, g1]) l hne (by omega) (by simp only [maxLen] at h10; omega) (fun j x hj => by
    rw [addr_add, Nat.zero_add, h8.cell]
    have h13 : (cs.toList.take ((l.map bD).length * 1))[j]? = some (.int .u8 x.toNat) := by rw [hrows]; simp [hj]
    rw [List.getElem?_take] at h13
    split at h13
    · simpa using h13
    · cases h13)
  have hrun : (execOp a.eval o).run P w = .ok (.value (.string ⟨l.toArray⟩)) (w.freeze ⟨g, 0, none⟩ l.length) := by
    simp [execOp, ho, h2, k3, resolve, invoke, builtin, hr]
  unfold Oper.wp
  rw [hrun]
  have hsz : (w.freeze ⟨g, 0, none⟩ l.length).heap.size = w.heap.size ∧ (∀ b, b ≠ g → (w.freeze ⟨g, 0, none⟩ l.length).heap[b]? = w.heap[b]?) ∧ (w.freeze ⟨g, 0, none⟩ l.length).os = w.os ∧ (w.freeze ⟨g, 0, none⟩ l.length).tape = w.tape ∧ (w.freeze ⟨g, 0, none⟩ l.length).output = w.output := by
    unfold World.freeze
    split
    · exact ⟨rfl, fun _ _ => rfl, rfl, rfl, rfl⟩
    · refine ⟨by simp, fun b hne => ?_, rfl, rfl, rfl⟩
      simp only [Array.getElem?_modify]
      rw [if_neg (fun e => hne e.symm)]
  have hs' : setE β i (some (g, c)) = β := by funext j; by_cases hj : j = i <;> simp [setE, hj, hb]
  have := hm.set_ (w' := w.freeze ⟨g, 0, none⟩ l.length) (ab' := .gone) (x := some (g, c)) hM rfl hsz.2.2.1 hsz.2.2.2.1 hsz.2.2.2.2 (by rw [hsz.1]; exact Nat.le_refl _)
    (fun b _ hne => hsz.2.1 b (fun e => hne c (by rw [hb, e]))) (fun g' c' h => by cases h; exact .inl ⟨c, hb⟩) trivial (fun _ => trivial)
  rw [hs'] at this
  exact hK _ _ _ this.1 this.2 rfl
end

def i32s : List D → Option (List Int)
  | [] => some []
  | .val (.int .i32 n) :: r => match i32s r with
    | some ns => some (n :: ns)
    | none => none
  | _ => none
theorem i32s_eq : ∀ {es : List D} {ns : List Int}, i32s es = some ns → es = ns.map rD
  | [], ns, h => by cases h; rfl
  | d :: r, ns, h => by
    unfold i32s at h
    split at h
    · rename_i h'; cases h'
    · rename_i n r' h'
      cases h'
      split at h
      · rename_i ns' h1
        cases h
        rw [i32s_eq h1]
        rfl
      · cases h
    · cases h

section
variable {P : Program} {ops : Array Oper} {N : Nat} {K : AS → Prop} {o : Oper} {r : List Oper} {fo fo' : Option (List Nat)} {M M' : List AB} {F : List (Nat × AV)} {dt : Tmp} {tab : List (Nat × TE)} {out : AV}
theorem r_range (ht : TyTab P tab) {T : Nat} {x : Operand} {s : ByteArray} (hg : o.guard = none) (ho : o.op = .range T x) (hT : kindAt tab T = some .str) (hx : aval (look F) x = .val (.string s)) (hdd : o.dst = some dt) (hd : dstB o.dst N = true) (hp : popF fo 2 = some fo')
    (k : RunX P ops N K r fo' (M ++ [.iter s 0]) ((dt, .ptr M.length 0) :: F)) : RunX P ops N K (o :: r) fo M F :=
  RunX.mk (fun _ k => Run.eff hd (StepG.plain hg (astep_range ht ho hT hx)) (by rw [put_eq hdd]; exact k)) hp k
theorem r_next {x : Operand} {i pos : Nat} {s : ByteArray} (hg : o.guard = none) (ho : o.op = .next x true) (hx : aval (look F) x = .ptr i 0) (hM : M[i]? = some (.iter s pos)) (hlt : pos < s.size) (hdd : o.dst = some dt) (hd : dstB o.dst N = true) (hp : popF fo 2 = some fo')
    (k : RunX P ops N K r fo' (M.set i (.iter s (pos + (Utf8.decode s pos).2))) ((dt, .tup [.val (.bool true), .val (.int .i64 pos), .val (.int .i32 (Utf8.decode s pos).1)]) :: F)) : RunX P ops N K (o :: r) fo M F :=
  RunX.mk (fun _ k => Run.eff hd (StepG.plain hg (astep_next ho hx hM hlt)) (by rw [put_eq hdd]; exact k)) hp k
theorem r_next_end {x : Operand} {i pos : Nat} {s : ByteArray} (hg : o.guard = none) (ho : o.op = .next x true) (hx : aval (look F) x = .ptr i 0) (hM : M[i]? = some (.iter s pos)) (hlt : ¬ pos < s.size) (hdd : o.dst = some dt) (hd : dstB o.dst N = true) (hp : popF fo 1 = some fo')
    (k : RunX P ops N K r fo' M ((dt, .tup [.val (.bool false)]) :: F)) : RunX P ops N K (o :: r) fo M F :=
  RunX.mk (fun _ k => Run.quiet hd (StepG.plain hg (astep_next_end ho hx hM hlt)) (by rw [put_eq hdd]; exact k)) hp k
theorem r_nilck {x : Operand} {y : AV} (hg : o.guard = none) (ho : o.op = .nilCheck x) (hx : isPtr (aval (look F) x) = true) (hy : nf (aval (look F) x) = some y) (hdd : o.dst = some dt) (hd : dstB o.dst N = true) (hp : popF fo 0 = some fo')
    (k : RunX P ops N K r fo' M ((dt, y) :: F)) : RunX P ops N K (o :: r) fo M F :=
  RunX.mk (fun _ k => Run.pure_ hd (fun _ => StepG.plain hg (astep_nilCheck ho hx)) (by rw [put_eq hdd, nf_eq hy]; exact k)) hp k
theorem r_rstr (ht : TyTab P tab) {T U : Nat} {x : Operand} {q : IntKind} {n : Int} {tk : TK} (hg : o.guard = none) (ho : o.op = .convert T U x) (hT : kindAt tab T = some tk) (hU : kindAt tab U = some .str) (hx : aval (look F) x = .val (.int q n)) (hdd : o.dst = some dt) (hd : dstB o.dst N = true) (hp : popF fo 0 = some fo')
    (k : RunX P ops N K r fo' M ((dt, .val (.string (Utf8.encode n))) :: F)) : RunX P ops N K (o :: r) fo M F :=
  RunX.mk (fun _ k => Run.pure_ hd (fun _ => StepG.plain hg (astep_rune_str ht ho hT hU hx)) (by rw [put_eq hdd]; exact k)) hp k
theorem r_rsstr (ht : TyTab P tab) {T U e : Nat} {ee : TE} {x : Operand} {es : List D} {ns : List Int} (hg : o.guard = none) (ho : o.op = .convert T U x) (hT : elemOf_ tab T = some (e, ee)) (he : kindAt tab e = some (.int .i32)) (hU : kindAt tab U = some .str)
    (hx : aval (look F) x = .sl 1 es) (hns : i32s es = some ns) (hdd : o.dst = some dt) (hd : dstB o.dst N = true) (hp : popF fo 0 = some fo') (k : RunX P ops N K r fo' M ((dt, .val (.string (runesBytes ns))) :: F)) : RunX P ops N K (o :: r) fo M F :=
  RunX.mk (fun _ k => Run.pure_ hd (fun _ => StepG.plain hg (astep_runes_str ht ho hT he hU (by rw [hx, i32s_eq hns]))) (by rw [put_eq hdd]; exact k)) hp k
theorem r_bstr' (ht : TyTab P tab) {T U e : Nat} {ee : TE} {x : Operand} {l : List UInt8} (hg : o.guard = none) (ho : o.op = .convert T U x) (hT : elemOf_ tab T = some (e, ee)) (he : kindAt tab e = some (.int .u8)) (hU : kindAt tab U = some .str)
    (hx : aval (look F) x = .sl 1 (l.map bD)) (hdd : o.dst = some dt) (hd : dstB o.dst N = true) (hp : popF fo 0 = some fo') (k : RunX P ops N K r fo' M ((dt, .val (.string ⟨l.toArray⟩)) :: F)) : RunX P ops N K (o :: r) fo M F :=
  RunX.mk (fun _ k => Run.pure_ hd (fun _ => StepG.plain hg (astep_bytes_str' ht ho hT he hU hx)) (by rw [put_eq hdd]; exact k)) hp k
theorem r_rowstr (ht : TyTab P tab) {T U e i ver e' : Nat} {ee : TE} {x : Operand} {l : List UInt8} (hg : o.guard = none) (ho : o.op = .convert T U x) (hT : elemOf_ tab T = some (e, ee)) (he : kindAt tab e = some (.int .u8)) (hU : kindAt tab U = some .str)
    (hx : aval (look F) x = .row i ver) (hM : M[i]? = some (.row ver e' 1 (l.map bD))) (hdd : o.dst = some dt) (hd : dstB o.dst N = true) (hp : popF fo 1 = some fo') (k : RunX P ops N K r fo' M ((dt, .val (.string ⟨l.toArray⟩)) :: F)) : RunX P ops N K (o :: r) fo M F :=
  RunX.mk (fun _ k => Run.quiet hd (StepG.plain hg (astep_row_str ht ho hT he hU hx hM)) (by rw [put_eq hdd]; exact k)) hp k
theorem r_strb (ht : TyTab P tab) {T U e : Nat} {ee : TE} {x : Operand} {s : ByteArray} (hg : o.guard = none) (ho : o.op = .convert T U x) (hT : kindAt tab T = some .str) (hU : elemOf_ tab U = some (e, ee)) (he : kindAt tab e = some (.int .u8)) (hx : aval (look F) x = .val (.string s)) (hb : s.size ≤ 9223372036854775807)
    (hdd : o.dst = some dt) (hd : dstB o.dst N = true) (hp : popF fo 2 = some fo') (k : RunX P ops N K r fo' (M ++ [.row 0 e 1 (s.data.toList.map bD)]) ((dt, .row M.length 0) :: F)) : RunX P ops N K (o :: r) fo M F :=
  RunX.mk (fun _ k => Run.eff hd (StepG.plain hg (astep_str_bytes ht ho hT hU he hx hb)) (by rw [put_eq hdd]; exact k)) hp k
theorem r_strd (ht : TyTab P tab) {T U e : Nat} {ee : TE} {x : Operand} {s : ByteArray} (hg : o.guard = none) (ho : o.op = .convert T U x) (hT : kindAt tab T = some .str) (hU : elemOf_ tab U = some (e, ee)) (he : kindAt tab e = some (.int .u8)) (hx : aval (look F) x = .val (.string s)) (hb : s.size ≤ 9223372036854775807)
    (hdd : o.dst = some dt) (hd : dstB o.dst N = true) (hp : popF fo 1 = some fo') (k : RunX P ops N K r fo' M ((dt, .sl 1 (s.data.toList.map bD)) :: F)) : RunX P ops N K (o :: r) fo M F :=
  RunX.mk (fun _ k => Run.quiet hd (StepG.plain hg (astep_str_data ht ho hT hU he hx hb)) (by rw [put_eq hdd]; exact k)) hp k
/-- Elements of own rows. -/
theorem r_idxr (ht : TyTab P tab) {T e i ver e' : Nat} {ee : TE} {es : List D} {x y : Operand} {q : IntKind} {n : Int} (hg : o.guard = none) (ho : o.op = .indexAddr T x y) (hT : elemOf_ tab T = some (e, ee)) (hx : aval (look F) x = .row i ver) (hM : M[i]? = some (.row ver e' ee.size es))
    (hy : aval (look F) y = .val (.int q n)) (hdd : o.dst = some dt) (hd : dstB o.dst N = true) (hn : 0 ≤ n ∧ n.toNat < es.length) (hp : popF fo 1 = some fo') (k : RunX P ops N K r fo' M ((dt, .eptr i ver n.toNat 0) :: F)) : RunX P ops N K (o :: r) fo M F :=
  RunX.mk (fun _ k => Run.quiet hd (StepG.plain hg (astep_idx_row ht ho hT hx hM hy hn.1 hn.2)) (by rw [put_eq hdd]; exact k)) hp k
theorem r_lde (ht : TyTab P tab) {α : Type} {f : α → D} {l : List α} {T i ver j off e k' : Nat} {te : TE} {x : Operand} (hg : o.guard = none) (ho : o.op = .load T x) (hT : tget tab T = some te) (hx : aval (look F) x = .eptr i ver j off) (hM : M[i]? = some (.row ver e k' (l.map f))) (hj : j < l.length)
    (hl : ldAV te ((f (l[j]'hj)).cells.drop off) = some out) (hdd : o.dst = some dt) (hd : dstB o.dst N = true) (hp : popF fo 1 = some fo') (k : RunX P ops N K r fo' M ((dt, out) :: F)) : RunX P ops N K (o :: r) fo M F :=
  RunX.mk (fun _ k => Run.quiet hd (StepG.plain hg (astep_load_e ht ho hT hx hM (map_get hj) (ldAV_eq hl))) (by rw [put_eq hdd]; exact k)) hp k
theorem r_idxr_cnd (ht : TyTab P tab) {jg : Nat} {want c0 : Bool} {g : Tmp} {T e i ver e' : Nat} {ee : TE} {es : List D} {x y : Operand} {q : IntKind} {n : Int} (hg : o.guard = some (jg, want)) (hj : dstOf ops jg = some g) (hF : guardOf want (look F g) = some c0) (ho : o.op = .indexAddr T x y) (hT : elemOf_ tab T = some (e, ee))
    (hx : aval (fun t => strip (look F t)) x = .row i ver) (hM : M[i]? = some (.row ver e' ee.size es)) (hy : aval (fun t => strip (look F t)) y = .val (.int q n)) (hcs : c0 = true → condsOf (look F) o.op.operands.toList = true) (hdd : o.dst = some dt) (hd : dstB o.dst N = true) (hn : c0 = true → 0 ≤ n ∧ n.toNat < es.length)
    (hp : popF fo 1 = some fo') (k : RunX P ops N K r fo' M ((dt, .cnd c0 (.eptr i ver n.toNat 0)) :: F)) : RunX P ops N K (o :: r) fo M F :=
  RunX.mk (fun _ k => Run.quiet hd (StepG.cnd hg hj hF hcs fun h => astep_idx_row ht ho hT hx hM hy (hn h).1 (hn h).2) (by rw [put_eq hdd]; exact k)) hp k
theorem r_lde_cnd (ht : TyTab P tab) {jg : Nat} {want c0 : Bool} {g : Tmp} {α : Type} {f : α → D} {l : List α} {T i ver j off e k' : Nat} {te : TE} {x : Operand} (hg : o.guard = some (jg, want)) (hj : dstOf ops jg = some g) (hF : guardOf want (look F g) = some c0) (ho : o.op = .load T x) (hT : tget tab T = some te)
    (hx : aval (fun t => strip (look F t)) x = .eptr i ver j off) (hM : M[i]? = some (.row ver e k' (l.map f))) (hcs : c0 = true → condsOf (look F) o.op.operands.toList = true) (hjl : j < l.length)
    (hl : ldAV te ((f (l[j]'hjl)).cells.drop off) = some out) (hdd : o.dst = some dt) (hd : dstB o.dst N = true) (hp : popF fo 1 = some fo') (k : RunX P ops N K r fo' M ((dt, .cnd c0 out) :: F)) : RunX P ops N K (o :: r) fo M F :=
  RunX.mk (fun _ k => Run.quiet hd (StepG.cnd hg hj hF hcs fun _ => astep_load_e ht ho hT hx hM (map_get hjl) (ldAV_eq hl)) (by rw [put_eq hdd]; exact k)) hp k
/-- A write into an element: what the element becomes is said. -/
theorem r_ste (ht : TyTab P tab) {α : Type} {f : α → D} {l : List α} (x0 : α) {T i ver j off e k' : Nat} {te : TE} {xd : D} {x y : Operand} (hg : o.guard = none) (ho : o.op = .store T x y) (hT : tget tab T = some te) (hx : aval (look F) x = .eptr i ver j off) (hM : M[i]? = some (.row ver e k' (l.map f))) (hj : j < l.length)
    (hy : toD (aval (look F) y) = some xd) (h1c : oneCs (cellsOf (aval (look F) y)) = true) (hsz : xd.width = te.size) (hput : putD xd (f (l[j]'hj)) off = some (f x0)) (hdd : o.dst = none) (hp : popF fo 2 = some fo')
    (k : RunX P ops N K r fo' (M.set i (.row ver e k' ((l.set j x0).map f))) F) (hv : sealed ver = false := by rfl) : RunX P ops N K (o :: r) fo M F :=
  RunX.mk (fun _ k => Run.eff (by rw [hdd]; rfl) (StepG.plain hg (astep_store_map ht x0 ho hT hx hM hj hy h1c hsz hput hv)) (by rw [put_none hdd]; exact k)) hp k
theorem r_cut (ht : TyTab P tab) {α : Type} {f : α → D} {l : List α} {T e : Nat} {ee : TE} {x : Operand} {lo hi : Option Operand} {a b : Option Int} (hg : o.guard = none) (ho : o.op = .slice T x lo hi none) (hT : elemOf_ tab T = some (e, ee)) (hx : aval (look F) x = .sl ee.size (l.map f)) (hlo : cutLo (aval (look F)) lo = some a) (hhi : cutLo (aval (look F)) hi = some b)
    (hdd : o.dst = some dt) (hd : dstB o.dst N = true) (hb : 0 ≤ a.getD 0 ∧ a.getD 0 ≤ b.getD l.length ∧ b.getD l.length ≤ (l.length : Int)) (hp : popF fo 0 = some fo') (k : RunX P ops N K r fo' M ((dt, .sl ee.size (((l.take (b.getD l.length).toNat).drop (a.getD 0).toNat).map f)) :: F)) : RunX P ops N K (o :: r) fo M F :=
  RunX.mk (fun _ k => Run.pure_ hd (fun _ => StepG.plain hg (astep_cut_map ht ho hT hx hlo hhi hb)) (by rw [put_eq hdd]; exact k)) hp k
/-- A call that is handed own memory. -/
theorem r_mcall {f : FuncId} {xs : Array Operand} {ts : Array TypeId} {M0 M1 M'' : List AB} {cargs : List AV} {res out : AV} (σ : List Nat) (hc : MCalls P f M0 cargs M1 res) (hcall : Callable P f) (hg : o.guard = none) (ho : o.op = .call { callee := .value (.func f), args := xs, argTypes := ts })
    (hemb : EmbM M (nth σ) σ M0) (hnd : σ.Nodup) (hargs : Subs (xs.toList.map (aval (look F))) (AV.rens (nth σ) cargs)) (hn : M1.length = M0.length) (hu : (AV.unders σ.length cargs && M0.all (AB.under σ.length)) = true)
    (hM' : setAll M σ (M1.map (AB.ren (nth σ))) = M'') (hr : nf (res.ren (nth σ)) = some out) (hdd : o.dst = some dt) (hd : dstB o.dst N = true) (hp : popF fo 2 = some fo') (k : RunX P ops N K r fo' M'' ((dt, out) :: F)) : RunX P ops N K (o :: r) fo M F := by
  subst hM'
  exact RunX.mk (fun _ k => Run.eff hd (StepG.plain hg (astep_mcall σ ho hcall hc hemb hnd hargs hn hu)) (by rw [put_eq hdd, nf_eq hr]; exact k)) hp k
theorem r_usd {T i ver e k' : Nat} {es : List D} {x : Operand} (hne : es ≠ []) (hg : o.guard = none) (ho : o.op = .call { callee := .builtin .unsafeSliceData, args := #[x], argTypes := #[T] }) (hx : aval (look F) x = .row i ver) (hM : M[i]? = some (.row ver e k' es)) (hdd : o.dst = some dt) (hd : dstB o.dst N = true) (hp : popF fo 1 = some fo')
    (k : RunX P ops N K r fo' M ((dt, .eptr i ver 0 0) :: F)) : RunX P ops N K (o :: r) fo M F :=
  RunX.mk (fun _ k => Run.quiet hd (StepG.plain hg (astep_usd (e' := 0) ho hx hM hne)) (by rw [put_eq hdd]; exact k)) hp k
theorem r_usd0 {T i ver e e' k' : Nat} {x : Operand} (hty : P.underlying o.type = some (.pointer e')) (hg : o.guard = none) (ho : o.op = .call { callee := .builtin .unsafeSliceData, args := #[x], argTypes := #[T] }) (hx : aval (look F) x = .row i ver) (hM : M[i]? = some (.row ver e k' [])) (hdd : o.dst = some dt) (hd : dstB o.dst N = true) (hp : popF fo 1 = some fo')
    (k : RunX P ops N K r fo' M ((dt, someP i ver) :: F)) : RunX P ops N K (o :: r) fo M F :=
  RunX.mk (fun _ k => Run.quiet hd (StepG.plain hg (astep_usd0 hty ho hx hM)) (by rw [put_eq hdd]; exact k)) hp k
theorem r_ustr0 {T U i ver e k' : Nat} {x y : Operand} (hg : o.guard = none) (ho : o.op = .call { callee := .builtin .unsafeString, args := #[x, y], argTypes := #[T, U] }) (hx : aval (look F) x = someP i ver) (hy : aval (look F) y = .val (.int .i64 0)) (hM : M[i]? = some (.row ver e k' [])) (hdd : o.dst = some dt) (hd : dstB o.dst N = true) (hp : popF fo 1 = some fo')
    (k : RunX P ops N K r fo' M ((dt, .val (.string ⟨#[]⟩)) :: F)) : RunX P ops N K (o :: r) fo M F :=
  RunX.mk (fun _ k => Run.quiet hd (StepG.plain hg (astep_ustr0 ho hx hy hM)) (by rw [put_eq hdd]; exact k)) hp k
theorem r_ustr {T U i ver e : Nat} {x y : Operand} {l : List UInt8} (hne : l ≠ []) (ht : P.underlying T = some (.pointer e)) (hce : P.cellsOf e = 1) (hg : o.guard = none) (ho : o.op = .call { callee := .builtin .unsafeString, args := #[x, y], argTypes := #[T, U] }) (hx : aval (look F) x = .eptr i ver 0 0) (hy : aval (look F) y = .val (.int .i64 (l.map bD).length))
    (hM : M[i]? = some (.row ver e 1 (l.map bD))) (hdd : o.dst = some dt) (hd : dstB o.dst N = true) (hp : popF fo 2 = some fo') (k : RunX P ops N K r fo' (M.set i .gone) ((dt, .val (.string ⟨l.toArray⟩)) :: F)) : RunX P ops N K (o :: r) fo M F :=
  RunX.mk (fun _ k => Run.eff hd (StepG.plain hg (astep_ustr ht hce ho hx hy hM hne)) (by rw [put_eq hdd]; exact k)) hp k
/-- The start of a walk that is handed own memory; its ends. -/
theorem m_start {f : FuncId} {fn : Func} {c : Code} {M0 M1 : List AB} {args : List AV} {res : AV} {N : Nat} {F : List (Nat × AV)} (hf : P.funcs[f]? = some fn) (hN : fn.ntmps = N) (hb : fn.body = some c) (hF : nfF (argF 0 args) = some F) (hok : Nat.ble args.length N = true)
    (h : ∀ S w β, AWp ⟨P, N, S, w, M0, β, none⟩ c ⟨M0, F⟩ (retM P fn M0.length M1 res)) : MCalls P f M0 args M1 res := mcalls_of hf hN hb hF hok h
theorem retM0 {fn : Func} {n : Nat} {e : Exit} {M M1 : List AB} {F : List (Nat × AV)} (he : e = .normal ∨ e = .ret) (hr : fn.results.toList = []) (hM : M.take n = M1) (hu : M1.all (AB.under n) = true) : retM P fn n M1 (.tup []) e ⟨M, F⟩ :=
  ⟨he, hM, hu, [], by rw [hr]; exact .nil, Sub.refl _⟩
theorem retM1 {fn : Func} {n : Nat} {res x : AV} {e : Exit} {M M1 : List AB} {F : List (Nat × AV)} {t : Tmp} (he : e = .normal ∨ e = .ret) (hr : fn.results.toList = [.tmp t]) (hx : nf (look F t) = some x) (hf : x.under n = true) (hM : M.take n = M1) (hu : M1.all (AB.under n) = true) (h : Sub x res) : retM P fn n M1 res e ⟨M, F⟩ :=
  ⟨he, hM, hu, [x], by rw [hr]; exact .cons (.tmp (by rw [nf_eq hx]; exact Sub.refl _) (by rw [nf_eq hx]; exact hf)) .nil, h⟩
theorem retM1c {fn : Func} {n : Nat} {res x : AV} {e : Exit} {M M1 : List AB} {F : List (Nat × AV)} {t : Tmp} {ty : TypeId} {te : TE} {i off e' : Nat} {cells : List AV} {tab : List (Nat × TE)} (ht : TyTab P tab) (he : e = .normal ∨ e = .ret) (hr : fn.results.toList = [.cell t ty]) (hte : tget tab ty = some te)
    (hp : look F t = .ptr i off) (hMi : M[i]? = some (.box e' cells)) (hx : loadAV te (cells.drop off) = some x) (hf : x.under n = true) (hM : M.take n = M1) (hu : M1.all (AB.under n) = true) (h : Sub x res) : retM P fn n M1 res e ⟨M, F⟩ :=
  ⟨he, hM, hu, [x], by rw [hr]; exact .cons (.cell (ht.get hte) hp hMi hx hf) .nil, h⟩
end
section
variable {P : Program} {o : Oper} {M M' : List AB} {ρ : Operand → AV} {out : AV} {tab : List (Nat × TE)}
theorem ptr_of {P : Program} {T e : Nat} (h : P.underlying T = some (.pointer e)) : P.underlying T = some (.pointer (P.pointee T)) := by
  have : P.pointee T = e := by simp [Program.pointee, h]
  rw [this]
  exact h
theorem astep_eqnil_ptr {T U e i off : Nat} {x y : Operand} (hT : P.underlying T = some (.pointer e)) (ho : o.op = .binOp .eql T x y U) (hx : ρ x = .ptr i off) (hy : ρ y = .val (.pointer none)) : AStep P o M ρ M (.val (.bool false)) :=
  .value fun S B β a w _ hs => by
    have h1 := hs x (by simp [ho, Op.operands])
    have h2 := hs y (by simp [ho, Op.operands])
    rw [hx] at h1; rw [hy] at h2
    obtain ⟨g, c, _, h3, _⟩ := h1
    have h2 : a.eval y = .pointer none := h2
    have := run_eql_pointer_nil (P := P) w T (some ⟨g, off, none⟩) (ptr_of hT)
    exact ⟨.bool false, by simp [execOp, ho, h2, h3, eqGuard, this], rfl⟩
theorem astep_eqnil_nil {T U e : Nat} {x y : Operand} (hT : P.underlying T = some (.pointer e)) (ho : o.op = .binOp .eql T x y U) (hx : ρ x = .val (.pointer none)) (hy : ρ y = .val (.pointer none)) : AStep P o M ρ M (.val (.bool true)) :=
  .value fun S B β a w _ hs => by
    have h1 := hs x (by simp [ho, Op.operands])
    have h2 := hs y (by simp [ho, Op.operands])
    rw [hx] at h1; rw [hy] at h2
    have h1 : a.eval x = .pointer none := h1
    have h2 : a.eval y = .pointer none := h2
    have := run_eql_pointer_nil (P := P) w T none (ptr_of hT)
    exact ⟨.bool true, by simp [execOp, ho, h2, h1, eqGuard, this], rfl⟩
theorem astep_neqself (ht : TyTab P tab) {T U e i off : Nat} {te : TE} {x y : Operand} (hT : P.underlying T = some (.pointer e)) (he : tget tab e = some te) (ho : o.op = .binOp .neq T x y U) (hx : ρ x = .ptr i off) (hy : ρ y = .ptr i off) : AStep P o M ρ M (.val (.bool false)) :=
  .value fun S B β a w _ hs => by
    have h1 := hs x (by simp [ho, Op.operands])
    have h2 := hs y (by simp [ho, Op.operands])
    rw [hx] at h1; rw [hy] at h2
    obtain ⟨g, c, h4, h3, _⟩ := h1
    obtain ⟨g', c', h4', h3', _⟩ := h2
    rw [h4] at h4'; cases h4'
    obtain ⟨d, j, z, _, _, hi, _⟩ := teOf_spec (ht.get he)
    have := Lib.run_neq_ptr_same (P := P) w ⟨g, off, none⟩ hT hi
    exact ⟨.bool false, by simp [execOp, ho, h3, h3', eqGuard, this], rfl⟩
theorem astep_tounsafe (ht : TyTab P tab) {T U e i k : Nat} {te : TE} {x : Operand} {cells : List AV} (hT : P.underlying T = some (.pointer e)) (hU : P.underlying U = some .unsafePointer) (he : tget tab e = some te) (ho : o.op = .convert T U x) (hx : ρ x = .ptr i 0) (hM : M[i]? = some (.box k cells))
    (hsz : (Nat.blt 0 te.size && Nat.blt 0 cells.length) = true) : AStep P o M ρ M (.ptr i 0) :=
  .value fun S B β a w hm hs => by
    have h1 := hs x (by simp [ho, Op.operands])
    rw [hx] at h1
    have h1' := h1
    obtain ⟨g, c, h4, h3, _⟩ := h1
    obtain ⟨g', c', cs, h5, h6, h7⟩ := box_cells hm hM
    rw [h4] at h5; cases h5
    rw [Bool.and_eq_true, Nat.blt_eq, Nat.blt_eq] at hsz
    obtain ⟨d, j, z, _, _, hi, hjs, _⟩ := teOf_spec (ht.get he)
    have hl := h7.len
    have := Lib.run_to_unsafe (P := P) w ⟨g, 0, none⟩ hT hU hi (by omega) (e := k) (cells := cs.size) (by simp [World.shape?, h6]) (by simp at hl ⊢; omega)
    rw [h3] at h1'
    exact ⟨_, by simp only [execOp, ho, h3, Sem.run_bind, this]; rfl, h1'⟩
theorem astep_fromunsafe (ht : TyTab P tab) {T U e i k : Nat} {te : TE} {x : Operand} {cells : List AV} (hT : P.underlying T = some .unsafePointer) (hU : P.underlying U = some (.pointer e)) (he : tget tab e = some te) (ho : o.op = .convert T U x) (hx : ρ x = .ptr i 0) (hM : M[i]? = some (.box k cells))
    (hlies : liesAt P P.depth k (cells.length / P.cellsOf k) 0 e 1 = true) : AStep P o M ρ M (.ptr i 0) :=
  .value fun S B β a w hm hs => by
    have h1 := hs x (by simp [ho, Op.operands])
    rw [hx] at h1
    have h1' := h1
    obtain ⟨g, c, h4, h3, _⟩ := h1
    obtain ⟨g', c', cs, h5, h6, h7⟩ := box_cells hm hM
    rw [h4] at h5; cases h5
    obtain ⟨d, j, z, _, _, hi, hjs, _⟩ := teOf_spec (ht.get he)
    have hl := h7.len
    have := Lib.run_from_unsafe (P := P) w ⟨g, 0, none⟩ hT hU hi (e := k) (cells := cs.size) (by simp [World.shape?, h6]) (by rw [← Array.length_toList, hl]; exact hlies)
    rw [h3] at h1'
    exact ⟨_, by simp only [execOp, ho, h3, Sem.run_bind, this]; rfl, h1'⟩
theorem run_ext {f : FuncId} {w w' : World} {v : Value} {xs : Array Operand} {ts : Array TypeId} (ho : o.op = .call { callee := .value (.func f), args := xs, argTypes := ts }) (a : Act) (h : (callFunc f (xs.map a.eval)).run P w = .ok (.value v) w') :
    (execOp a.eval o).run P w = .ok (.value v) w' := by
  simp [execOp, ho, resolve, Deferred.ofValue, Act.eval, invoke, h]
theorem astep_noescape {f : FuncId} {fn : Func} {xs : Operand} {ts : Array TypeId} (hf : P.funcs[f]? = some fn) (hname : (fn.name == "runtime.NumGoroutine") = false) (hb : fn.body.isNone = true) (hn : Extern.findNext fn = none) (he : Extern.find fn = some Extern.AbiNoEscape.same)
    (ho : o.op = .call { callee := .value (.func f), args := #[xs], argTypes := ts }) : AStep P o M ρ M (ρ xs) :=
  .value fun S B β a w hm hs => by
    have h1 := hs xs (by simp [ho, Op.operands, Call.operands])
    have hr := run_callFunc_extern hf hname hb hn he (#[xs].map a.eval) w
    have e : (Extern.AbiNoEscape.same (#[xs].map a.eval)).run P w = .ok (a.eval xs) w := by
      have : #[xs].map a.eval = #[a.eval xs] := by simp
      rw [this]
      exact Lib.run_noEscape w _
    rw [e] at hr
    exact ⟨_, run_ext ho a hr, h1⟩
end
section
variable {P : Program} {ops : Array Oper} {N : Nat} {K : AS → Prop} {o : Oper} {r : List Oper} {fo fo' : Option (List Nat)} {M M' : List AB} {F : List (Nat × AV)} {dt : Tmp} {tab : List (Nat × TE)} {out : AV}
/-- An operation that turns no memory of ours, by its own law. -/
theorem r_by {x : AV} (hs : ∀ M, AStep P o M (aval (look F)) M x) (hg : o.guard = none) (hx : nf x = some out) (hdd : o.dst = some dt) (hd : dstB o.dst N = true) (hp : popF fo 0 = some fo') (k : RunX P ops N K r fo' M ((dt, out) :: F)) : RunX P ops N K (o :: r) fo M F :=
  RunX.mk (fun _ k => Run.pure_ hd (fun _ => StepG.plain hg (hs _)) (by rw [put_eq hdd, nf_eq hx]; exact k)) hp k
theorem r_by1 {x : AV} (hs : AStep P o M (aval (look F)) M x) (hg : o.guard = none) (hx : nf x = some out) (hdd : o.dst = some dt) (hd : dstB o.dst N = true) (hp : popF fo 1 = some fo') (k : RunX P ops N K r fo' M ((dt, out) :: F)) : RunX P ops N K (o :: r) fo M F :=
  RunX.mk (fun _ k => Run.quiet hd (StepG.plain hg hs) (by rw [put_eq hdd, nf_eq hx]; exact k)) hp k
end
/-- The first cell of a first box, said otherwise. -/
theorem box_swap {T : TypeId} {x z : AV} {l : List AV} {r : List AB} {S : Nat → Prop} {B : Nat} {β : Env} {w : World} (hm : MemSat S B (.box T (x :: l) :: r) β w)
    (hz : ∀ v, AVsat (.box T (x :: l) :: r) β w (immOf S B (.box T (x :: l) :: r) β w) x v → β 0 ≠ none → (∀ g c cs us, β 0 = some (g, c) → w.heap[g]? = some (.cells cs T (0, 0)) → cs.toList = v :: us → AVsat (.box T (x :: l) :: r) β w (immOf S B (.box T (x :: l) :: r) β w) z v)) :
    Ev (.box T (x :: l) :: r) β w (.box T (z :: l) :: r) β w ∧ MemSat S B (.box T (z :: l) :: r) β w := by
  have hEv : Ev (.box T (x :: l) :: r) β w (.box T (z :: l) :: r) β w := ⟨rfl, rfl, rfl, Nat.le_refl _, fun _ _ _ => rfl, fun b ⟨i, ab, c, h1, h2, h3⟩ => by
    cases i with
    | zero => exact .inl ⟨0, _, c, rfl, rfl, h3⟩
    | succ i => exact .inl ⟨i + 1, ab, c, h1, h2, h3⟩, fun i ab hi => by
    cases i with
    | zero => cases hi; exact ⟨_, rfl, rfl, rfl⟩
    | succ i => exact ⟨ab, hi, EvE.refl _ _⟩⟩
  obtain ⟨g, c, cs, k1, k2, v, us, k3, k4, k5⟩ := hm.ent 0 _ rfl
  have hz' := hz v k4 (by rw [k1]; simp) g c cs us k1 k2 k3
  refine ⟨hEv, hm.lo, fun i j ab ab' g c c' h1 h2 h3 l1 l2 l3 => ?_, fun i ab hi => ?_, fun b ⟨i, ab, c, h1, h2, h3⟩ => hm.own b (by
      cases i with
      | zero => exact ⟨0, _, c, rfl, rfl, h3⟩
      | succ i => exact ⟨i + 1, ab, c, h1, h2, h3⟩), GL.ev hEv hm.gl⟩
  · have old : ∀ (i : Nat) (ab : AB), (AB.box T (z :: l) :: r)[i]? = some ab → ab.alive = true → ∃ ab', (AB.box T (x :: l) :: r)[i]? = some ab' ∧ ab'.alive = true := by
      intro i ab hi ha
      cases i with
      | zero => exact ⟨_, rfl, rfl⟩
      | succ i => exact ⟨ab, hi, ha⟩
    obtain ⟨y1, p1, p2⟩ := old i ab h1 h2
    obtain ⟨y2, q1, q2⟩ := old j ab' l1 l2
    exact hm.inj i j y1 y2 g c c' p1 p2 h3 q1 q2 l3
  · cases i with
    | zero =>
      cases hi
      have : AVsats (.box T (x :: l) :: r) β w (immOf S B (.box T (x :: l) :: r) β w) (z :: l) cs.toList := ⟨v, us, k3, hz', k5⟩
      exact ⟨g, c, cs, k1, k2, this.ev hEv⟩
    | succ i => exact EntSat.ev hEv (fun _ _ _ _ => rfl) (hm.ent (i + 1) ab hi)
/-- A box that may point to itself: each state served, and told as may be. -/
theorem mcall_self {P : Program} {f : FuncId} {T : TypeId} {l l' : List AV} {r r' : List AB} {args : List AV} {res : AV} (h : MCalls P f (.box T (.val (.pointer none) :: l) :: r) args (.box T (.ptr 0 0 :: l') :: r') res)
    (h' : MCalls P f (.box T (.ptr 0 0 :: l) :: r) args (.box T (.ptr 0 0 :: l') :: r') res) : MCalls P f (.box T (selfP :: l) :: r) args (.box T (selfP :: l') :: r') res := by
  intro S B β w vs hm hvs
  obtain ⟨g, c, cs, k1, k2, v, us, k3, k4, k5⟩ := hm.ent 0 _ rfl
  have fin : ∀ z : AV, AVsat (.box T (selfP :: l) :: r) β w (immOf S B (.box T (selfP :: l) :: r) β w) z v → MCalls P f (.box T (z :: l) :: r) args (.box T (.ptr 0 0 :: l') :: r') res →
      Calls P f vs w fun e w' => ∃ v β', e = .returned v ∧ Ev (.box T (selfP :: l) :: r) β w (.box T (selfP :: l') :: r') β' w' ∧ MemSat S B (.box T (selfP :: l') :: r') β' w' ∧ AVsat (.box T (selfP :: l') :: r') β' w' (immOf S B (.box T (selfP :: l') :: r') β' w') res v := by
    intro z hz hc
    obtain ⟨e1, e2⟩ := box_swap (z := z) hm fun v' _ _ g' c' cs' us' q1 q2 q3 => by
      rw [k1] at q1; cases q1
      rw [k2] at q2; cases q2
      rw [k3] at q3; cases q3
      exact hz
    refine (hc S B β w vs e2 (hvs.ev e1)).mono ?_
    rintro e w' ⟨u, β', rfl, p2, p3, p4⟩
    obtain ⟨e3, e4⟩ := box_swap (z := selfP) p3 fun v' q _ _ _ _ _ _ _ _ => .inr q
    exact ⟨u, β', rfl, (e1.trans p2).trans e3, e4, p4.ev e3⟩
  rcases k4 with k4 | k4
  · exact fin _ k4 h
  · exact fin _ k4 h'
/-- A walk's end, said otherwise first. -/
def retF (cx : Cx) (P : Program) (fn : Func) (n : Nat) (M1 : List AB) (res : AV) (e : Exit) (s : AS) : Prop := ∃ s', Fits cx s s' ∧ retM P fn n M1 res e s'
theorem m_startF {P : Program} {f : FuncId} {fn : Func} {c : Code} {M0 M1 : List AB} {args : List AV} {res : AV} {N : Nat} {F : List (Nat × AV)} (hf : P.funcs[f]? = some fn) (hN : fn.ntmps = N) (hb : fn.body = some c) (hF : nfF (argF 0 args) = some F) (hok : Nat.ble args.length N = true)
    (h : ∀ S w β, AWp ⟨P, N, S, w, M0, β, none⟩ c ⟨M0, F⟩ (retF ⟨P, N, S, w, M0, β, none⟩ P fn M0.length M1 res)) : MCalls P f M0 args M1 res :=
  mcalls_of hf hN hb hF hok fun S w β a w' hs => wpIn_mono (h S w β a w' hs) fun e a'' w'' ⟨s1, ⟨s2, h1, h2⟩, h3⟩ => ⟨s2, h2, h1 _ _ h3⟩
theorem retF1 {cx : Cx} {P : Program} {fn : Func} {n : Nat} {res x : AV} {e : Exit} {M M1 : List AB} {F : List (Nat × AV)} {t : Tmp} (M' : List AB) (F' : List (Nat × AV)) (hfits : Fits cx ⟨M, F⟩ ⟨M', F'⟩) (he : e = .normal ∨ e = .ret) (hr : fn.results.toList = [.tmp t]) (hx : nf (look F' t) = some x) (hf : x.under n = true)
    (hM : M'.take n = M1) (hu : M1.all (AB.under n) = true) (h : Sub x res) : retF cx P fn n M1 res e ⟨M, F⟩ := ⟨_, hfits, retM1 he hr hx hf hM hu h⟩
section
variable {P : Program} {o : Oper} {M M' : List AB} {ρ : Operand → AV} {out : AV} {tab : List (Nat × TE)}
theorem freeze_facts {w : World} {g : Nat} {cs : Array Value} {e : TypeId} {fz : Nat × Nat} (hg : w.heap[g]? = some (.cells cs e fz)) (off n : Nat) : ∃ fz', (w.freeze ⟨g, off, none⟩ n).heap[g]? = some (.cells cs e fz') ∧ (w.freeze ⟨g, off, none⟩ n).heap.size = w.heap.size ∧
    (∀ b, b ≠ g → (w.freeze ⟨g, off, none⟩ n).heap[b]? = w.heap[b]?) ∧ (w.freeze ⟨g, off, none⟩ n).os = w.os ∧ (w.freeze ⟨g, off, none⟩ n).tape = w.tape ∧ (w.freeze ⟨g, off, none⟩ n).output = w.output := by
  unfold World.freeze
  split
  · exact ⟨fz, hg, rfl, fun _ _ => rfl, rfl, rfl, rfl⟩
  · obtain ⟨lo, hi⟩ := fz
    refine ⟨_, by simp only [Array.getElem?_modify, hg]; simp; rfl, by simp, fun b hne => ?_, rfl, rfl, rfl⟩
    simp only [Array.getElem?_modify]
    rw [if_neg (fun e => hne e.symm)]
/-- []byte of a constant: the row is marked, and let go as data. -/
theorem astep_mark (ht : TyTab P tab) {T e i ver k : Nat} {ee : TE} {x : Operand} {es : List D} (ho : o.op = .convert T T x) (hT : elemOf_ tab T = some (e, ee)) (he : kindAt tab e = some (.int .u8)) (hx : ρ x = .row i ver) (hM : M[i]? = some (.row ver e k es)) (hne : es ≠ []) :
    AStep P o M ρ (M.set i .gone) (.sl k es) := by
  intro S B β a w hm hs K Q hK
  have h1 := hs x (by simp [ho, Op.operands])
  rw [hx] at h1
  obtain ⟨h2, h3⟩ := row_val hm hM h1
  obtain ⟨hw, ⟨h7, h7'⟩ | ⟨g, c, cs, h7, h8, h9, h10, h11, h12⟩⟩ := hm.ent i _ hM
  · exact absurd h7' hne
  rw [h7] at h2
  have h8' := h8
  obtain ⟨fz, g1, _⟩ := h8'
  obtain ⟨fz', f1, f2, f3, f4, f5, f6⟩ := freeze_facts g1 cs.size 1
  have hrun : (execOp a.eval o).run P w = .ok (.value (.slice (some ⟨g, 0, none⟩) es.length c)) (w.freeze ⟨g, cs.size, none⟩ 1) := by
    have hsh : w.shape? g = some (e, cs.size) := by simp [World.shape?, g1]
    simp [execOp, ho, h2, rowVal, convert, run_underlying (elemOf_spec ht hT).1, run_underlying (kindAt_int ht he), markStringish, hsh]
  unfold Oper.wp
  rw [hrun]
  have hs' : setE β i (some (g, c)) = β := by funext j; by_cases hj : j = i <;> simp [setE, hj, h7]
  have := hm.set_ (w' := w.freeze ⟨g, cs.size, none⟩ 1) (ab' := .gone) (x := some (g, c)) hM rfl f4 f5 f6 (by rw [f2]; exact Nat.le_refl _)
    (fun b _ hne => f3 b (fun e => hne c (by rw [h7, e]))) (fun g' c' h => by cases h; exact .inl ⟨c, h7⟩) trivial (fun _ => trivial)
  rw [hs'] at this
  have hlt : i < M.length := (List.getElem?_eq_some_iff.1 hM).1
  have hgw : g < w.heap.size := heap_lt g1
  refine hK _ _ _ this.1 this.2 ⟨some ⟨g, 0, none⟩, es.length, c, rfl, rfl, h9, h10, hw, fun _ => ⟨g, 0, _, rfl, ⟨hm.own g ⟨i, _, c, hM, rfl, h7⟩, by rw [f2]; exact hgw, ?_⟩, DenCs.mono (fun _ => immOf.ev this.1) (fun _ off => immOf.cell this.1 off) _ _ h12, fun j u hj => ?_⟩⟩
  · rintro ⟨j, ab', c', k1, k2, k3⟩
    by_cases hji : j = i
    · subst hji
      rw [List.getElem?_set_self hlt] at k1
      cases k1
      cases k2
    · rw [List.getElem?_set_ne (Ne.symm hji)] at k1
      exact hji (hm.inj j i _ _ g c' c k1 k2 k3 hM rfl h7)
  · rw [Nat.zero_add, cell_of_row _ _ _ _ _ _ f1]
    rw [List.getElem?_take] at hj
    split at hj
    · simpa using hj
    · cases hj
end
section
variable {P : Program} {ops : Array Oper} {N : Nat} {K : AS → Prop} {o : Oper} {r : List Oper} {fo fo' : Option (List Nat)} {M M' : List AB} {F : List (Nat × AV)} {dt : Tmp} {tab : List (Nat × TE)} {out : AV}
theorem r_mark (ht : TyTab P tab) {T e i ver k' : Nat} {ee : TE} {x : Operand} {es : List D} (hg : o.guard = none) (ho : o.op = .convert T T x) (hT : elemOf_ tab T = some (e, ee)) (he : kindAt tab e = some (.int .u8)) (hx : aval (look F) x = .row i ver) (hM : M[i]? = some (.row ver e k' es)) (hne : es ≠ [])
    (hdd : o.dst = some dt) (hd : dstB o.dst N = true) (hp : popF fo 2 = some fo') (k : RunX P ops N K r fo' (M.set i .gone) ((dt, .sl k' es) :: F)) : RunX P ops N K (o :: r) fo M F :=
  RunX.mk (fun _ k => Run.eff hd (StepG.plain hg (astep_mark ht ho hT he hx hM hne)) (by rw [put_eq hdd]; exact k)) hp k
end
end Go.Proofs.YtiolnmfaeenlmaaGreatDoor
