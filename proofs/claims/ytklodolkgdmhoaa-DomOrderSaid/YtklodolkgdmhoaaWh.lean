import Derived.Test.YtklodolkgdmhoaaWc
import Derived.Test.YtklodolkgdmhoaaWd
import Derived.Laws.DeepNot64
import Derived.Test.YtklodolkgdmhoaaG5
/- Words: a text cut at its White, sign by sign and byte by byte. -/
namespace Go.Proofs.Ytklodolkgdmhoaa
open Go Go.RowKit

def whB (b : UInt8) : Bool := decide (b.toNat = 10) || decide (b.toNat = 9) || decide (b.toNat = 32)
def whI (r : Int) : Bool := decide (r = 10) || decide (r = 9) || decide (r = 32)
def byteAt (s : ByteArray) (i : Nat) : UInt8 := s.data.toList.getD i 0
theorem get_at {s : ByteArray} {i : Nat} : s.get! i = byteAt s i := by
  show s.data[i]! = _
  rw [byteAt, List.getD_eq_getElem?_getD, Array.getElem?_toList, getElem!_def]
  cases s.data[i]? <;> rfl
theorem dec_sign (s : ByteArray) (i : Nat) (h : i < s.size) : whI ((Utf8.decode s i).1 : Int) = whB (byteAt s i) ∧ 1 ≤ (Utf8.decode s i).2 ∧ i + (Utf8.decode s i).2 ≤ s.size ∧ (whB (byteAt s i) = true → (Utf8.decode s i).2 = 1) ∧ ∀ k, 0 < k → k < (Utf8.decode s i).2 → whB (byteAt s (i + k)) = false := by
  have hb : ∀ k, (s.get! (i + k)).toNat / 64 = 2 → whB (byteAt s (i + k)) = false := fun k hk => by
    rw [get_at] at hk
    rw [whB, decide_eq_false (by omega), decide_eq_false (by omega), decide_eq_false (by omega)]
    rfl
  have big : ∀ c : Nat, 128 ≤ c → ∀ b : UInt8, 128 ≤ b.toNat → whI (c : Int) = whB b := fun c hc b hb => by
    rw [whI, whB, decide_eq_false (by omega), decide_eq_false (by omega), decide_eq_false (by omega), decide_eq_false (by omega), decide_eq_false (by omega), decide_eq_false (by omega)]
  have nowh : ∀ b : UInt8, 128 ≤ b.toNat → whB b = false := fun b hb => by
    rw [whB, decide_eq_false (by omega), decide_eq_false (by omega), decide_eq_false (by omega)]; rfl
  unfold Utf8.decode
  simp only [Utf8.runeError, Nat.add_zero, Bool.and_eq_true, decide_eq_true_eq, beq_iff_eq]
  split
  · rename_i h0
    rw [get_at] at h0
    refine ⟨?_, Nat.le_refl _, h, fun _ => rfl, fun k h1 h2 => by omega⟩
    dsimp only
    rw [get_at, whI, whB]
    congr 1
    · congr 1 <;> exact decide_eq_decide.2 (by omega)
    · exact decide_eq_decide.2 (by omega)
  · rename_i h0
    rw [get_at] at h0
    have hno := nowh (byteAt s i) (by omega)
    have fin1 : ∀ c : Nat, 128 ≤ c → whI (c : Int) = whB (byteAt s i) := fun c hc => big c hc _ (by omega)
    have one : whI ((65533 : Nat) : Int) = whB (byteAt s i) ∧ 1 ≤ 1 ∧ i + 1 ≤ s.size ∧ (whB (byteAt s i) = true → 1 = 1) ∧ ∀ k, 0 < k → k < 1 → whB (byteAt s (i + k)) = false :=
      ⟨fin1 _ (by omega), Nat.le_refl _, h, fun _ => rfl, fun k h1 h2 => by omega⟩
    split
    · rename_i h1
      split
      · rename_i h2
        refine ⟨fin1 _ h2, by omega, by dsimp only; omega, fun e => (by rw [hno] at e; cases e), fun k h3 h4 => ?_⟩
        have : k = 1 := by dsimp only at h4; omega
        subst this
        exact hb 1 h1.2.2
      · exact one
    · split
      · rename_i h1
        split
        · rename_i h2
          refine ⟨fin1 _ (by have := h2.1; omega), by omega, by dsimp only; omega, fun e => (by rw [hno] at e; cases e), fun k h3 h4 => ?_⟩
          have : k = 1 ∨ k = 2 := by dsimp only at h4; omega
          rcases this with rfl | rfl
          · exact hb 1 h1.1.2.2
          · exact hb 2 h1.2.2
        · exact one
      · split
        · rename_i h1
          split
          · rename_i h2
            refine ⟨fin1 _ (by have := h2.1; omega), by omega, by dsimp only; omega, fun e => (by rw [hno] at e; cases e), fun k h3 h4 => ?_⟩
            have : k = 1 ∨ k = 2 ∨ k = 3 := by dsimp only at h4; omega
            rcases this with rfl | rfl | rfl
            · exact hb 1 h1.1.1.2.2
            · exact hb 2 h1.1.2.2
            · exact hb 3 h1.2.2
          · exact one
        · exact one
/-- Where the words stand. -/
def sp : Option Nat → Nat → List UInt8 → List (Nat × Nat)
  | none, _, [] => []
  | some a, pos, [] => [(a, pos)]
  | none, pos, b :: r => if whB b then sp none (pos + 1) r else sp (some pos) (pos + 1) r
  | some a, pos, b :: r => if whB b then (a, pos) :: sp none (pos + 1) r else sp (some a) (pos + 1) r
theorem sp_no_some (a : Nat) : ∀ (x : List UInt8) (pos : Nat) (r : List UInt8), (∀ b ∈ x, whB b = false) → sp (some a) pos (x ++ r) = sp (some a) (pos + x.length) r
  | [], _, _, _ => rfl
  | b :: x, pos, r, h => by
    rw [List.cons_append, sp, h b List.mem_cons_self, if_neg Bool.false_ne_true, sp_no_some a x _ r fun y hy => h y (List.mem_cons_of_mem _ hy), List.length_cons, Nat.add_assoc, Nat.add_comm 1]
theorem sp_no (st : Option Nat) (pos : Nat) (x r : List UInt8) (hx : x ≠ []) (h : ∀ b ∈ x, whB b = false) : sp st pos (x ++ r) = sp (some (st.getD pos)) (pos + x.length) r := by
  cases st with
  | some a => exact sp_no_some a x pos r h
  | none =>
    cases x with
    | nil => exact absurd rfl hx
    | cons b x =>
      rw [List.cons_append, sp, h b List.mem_cons_self, if_neg Bool.false_ne_true, sp_no_some pos x _ r fun y hy => h y (List.mem_cons_of_mem _ hy), List.length_cons, Nat.add_assoc, Nat.add_comm 1]
      rfl
theorem sp_ok : ∀ (l : List UInt8) (st : Option Nat) (pos : Nat), (∀ a, st = some a → a ≤ pos) → ∀ p ∈ sp st pos l, p.1 ≤ p.2 ∧ p.2 ≤ pos + l.length
  | [], none, _, _, p, h => by cases h
  | [], some a, pos, ha, p, h => by
    rw [sp, List.mem_singleton] at h
    subst h
    exact ⟨ha a rfl, Nat.le_refl _⟩
  | b :: r, none, pos, _, p, h => by
    rw [sp] at h
    rw [List.length_cons]
    split at h
    · have := sp_ok r none (pos + 1) (fun a h => by cases h) p h
      omega
    · have := sp_ok r (some pos) (pos + 1) (fun a h => by cases h; omega) p h
      omega
  | b :: r, some a, pos, ha, p, h => by
    have := ha a rfl
    rw [sp] at h
    rw [List.length_cons]
    split at h
    · rcases List.mem_cons.1 h with rfl | h
      · exact ⟨this, by dsimp only; omega⟩
      · have := sp_ok r none (pos + 1) (fun a h => by cases h) p h
        omega
    · have := sp_ok r (some a) (pos + 1) (fun a h => by cases h; omega) p h
      omega
theorem sp_len : ∀ (l : List UInt8) (st : Option Nat) (pos : Nat), (sp st pos l).length ≤ l.length + 1
  | [], none, _ => Nat.zero_le _
  | [], some _, _ => Nat.le_refl _
  | b :: r, none, pos => by
    rw [sp, List.length_cons]
    have := sp_len r none (pos + 1)
    have := sp_len r (some pos) (pos + 1)
    split <;> omega
  | b :: r, some a, pos => by
    rw [sp, List.length_cons]
    have := sp_len r none (pos + 1)
    have := sp_len r (some a) (pos + 1)
    split
    · rw [List.length_cons]; omega
    · omega
def spans (s : ByteArray) : List (Nat × Nat) := sp none 0 s.data.toList
def wordsF (s : ByteArray) : List ByteArray := (spans s).map fun p => s.extract p.1 p.2
theorem drop_at {s : ByteArray} {i : Nat} (h : i < s.size) : s.data.toList.drop i = byteAt s i :: s.data.toList.drop (i + 1) := by
  have hl : i < s.data.toList.length := by rw [str_size]; exact h
  rw [List.drop_eq_getElem_cons hl, byteAt, getD_byte hl]
/-- A sign of a text: what it is to the words. -/
theorem sp_sign {s : ByteArray} {pos : Nat} (h : pos < s.size) (st : Option Nat) : sp st pos (s.data.toList.drop pos) =
    if whI ((Utf8.decode s pos).1 : Int) then (match st with | some a => [(a, pos)] | none => []) ++ sp none (pos + (Utf8.decode s pos).2) (s.data.toList.drop (pos + (Utf8.decode s pos).2))
    else sp (some (st.getD pos)) (pos + (Utf8.decode s pos).2) (s.data.toList.drop (pos + (Utf8.decode s pos).2)) := by
  obtain ⟨h1, h2, h3, h4, h5⟩ := dec_sign s pos h
  rw [h1]
  split
  · rename_i hw
    rw [h4 hw, drop_at h]
    cases st with
    | none => rw [sp, hw]; rfl
    | some a => rw [sp, hw]; rfl
  · rename_i hw
    have hw : whB (byteAt s pos) = false := by simpa using hw
    generalize (Utf8.decode s pos).2 = w at h2 h3 h5
    have hl : s.data.toList.length = s.size := str_size s
    have e : s.data.toList.drop pos = (s.data.toList.drop pos).take w ++ s.data.toList.drop (pos + w) := by
      rw [← List.drop_drop, List.take_append_drop]
    have hlen : ((s.data.toList.drop pos).take w).length = w := by rw [List.length_take, List.length_drop]; omega
    rw [e, sp_no st pos _ _ (by intro h; rw [h] at hlen; simp at hlen; omega) (fun b hb => ?_), hlen]
    obtain ⟨k, hk, rfl⟩ := List.mem_iff_getElem.1 hb
    rw [hlen] at hk
    have : ((s.data.toList.drop pos).take w)[k]'(by omega) = byteAt s (pos + k) := by
      rw [List.getElem_take, List.getElem_drop, byteAt, getD_byte]
    rw [this]
    rcases Nat.eq_zero_or_pos k with h0 | h0
    · subst h0; exact hw
    · exact h5 k h0 hk
end Go.Proofs.Ytklodolkgdmhoaa

/- strings.FieldsFunc; points.Words; slices.Contains; dom: Has. -/
namespace Go.Proofs.Ytklodolkgdmhoaa
open Go Go.RowKit

theorem astep_not64 {P : Program} {o : Oper} {M : List AB} {ρ : Operand → AV} {t : Nat} {x : Operand} {a : Nat} (ho : o.op = .unOp .xor t x) (hx : ρ x = .val (.int .i64 (a : Int))) (ha : a < 9223372036854775808) : AStep P o M ρ M (.val (.int .i64 (-1 - (a : Int)))) :=
  .value fun S B β A w _ hs => by
    have h1 := hs x (by simp [ho, Op.operands])
    rw [hx] at h1
    have h1 : A.eval x = .int .i64 a := h1
    have h2 := i64_not a ha
    refine ⟨.int .i64 (-1 - (a : Int)), ?_, rfl⟩
    rw [← h2]
    simp [execOp, ho, h1, Op.unary, Op.intBits, bits, IntKind.signed]
theorem awp_cutw {cx : Cx} {s : AS} {Q : Exit → AS → Prop} (s' : AS) {c b : Code} (h1 : AWp cx c s (fun e s'' => e = .normal ∧ Fits cx s'' s')) (h2 : AWp cx b s' Q) : AWp cx c s (thenA (fun s'' => AWp cx b s'' Q) Q) :=
  awp_mono h1 fun e s'' h => by
    obtain ⟨rfl, h⟩ := h
    exact thenA_normal (awp_fits h h2)
def spD (p : Nat × Nat) : D := .ag [.val (.int .i64 p.1), .val (.int .i64 p.2)]
theorem white_ok (r : Int) : PCalls Try.prog 55 [.val (.int .i32 r)] (.val (.bool (whI r))) := by
  refine p_start Try.func55 Try.ntmps55 rfl rfl rfl fun S w => ?_
  repeat (first
    | refine awp_seq ?_
    | refine thenA_normal ?_
    | refine a_region ?_
    | refine awp_ret ?_
    | refine r_done ?_
    | (refine r_id ?_; first
      | refine r_ev tab_ok rfl rfl rfl rfl (by first | exact trivial | exact ⟨by omega, by omega⟩ | omega | exact ⟨by omega, by omega, by omega, by omega⟩ | exact Nat.le_of_ble_eq_true rfl) rfl ?_
      | refine r_ev_cnd tab_ok rfl rfl rfl rfl rfl rfl (by first | exact fun _ => rfl | exact cs1 | exact cs2 | exact cs3) (by first | exact fun _ => trivial | (intro h; simp at h; first | exact ⟨by omega, by omega⟩ | omega)) rfl ?_
      | refine r_or rfl rfl rfl rfl rfl rfl rfl rfl ?_)
    | refine ret1 (by first | exact .inl rfl | exact .inr rfl) rfl rfl rfl ?_)
  exact Sub.refl _
/-- A text while its words are looked for. -/
structure FS (s : ByteArray) where
  pos : Nat
  st : Option Nat
  stI : Int
  out : List (Nat × Nat)
  hp : pos ≤ s.size
  h0 : st = none → stI < 0
  h1 : ∀ a, st = some a → stI = a
  hr : -9223372036854775808 ≤ stI ∧ stI ≤ s.size
  eq : out ++ sp st pos (s.data.toList.drop pos) = spans s
theorem FS.len {s : ByteArray} (x : FS s) : x.out.length ≤ s.size + 1 := by
  have h1 := sp_len s.data.toList none 0
  have h2 := congrArg List.length x.eq
  rw [List.length_append, spans] at h2
  rw [str_size] at h1
  omega
set_option maxHeartbeats 4000000 in
theorem fields_ok (s : ByteArray) (hs : s.size ≤ 1099511627776) : PCalls Try.prog 54 [.val (.string s), .cl 55 []] (.sl 1 ((wordsF s).map sD)) := by
  have hsz := str_size s
  refine p_start Try.func54 Try.ntmps54 rfl rfl rfl fun S w => ?_
  repeat (first
    | refine awp_seq ?_
    | refine a_region ?_
    | refine r_done ?_
    | (refine r_id ?_; first
      | refine r_ev tab_ok rfl rfl rfl rfl (by first | exact trivial | exact ⟨by omega, by omega⟩ | omega | exact ⟨by omega, by omega, by omega, by omega⟩ | exact Nat.le_of_ble_eq_true rfl) rfl ?_))
  refine r_by2 (astep_make_none tab_ok rfl rfl rfl rfl rfl rfl) rfl rfl rfl rfl rfl ?_
  repeat (first
    | refine awp_seq ?_
    | refine thenA_normal ?_
    | refine awp_block ?_
    | refine a_region ?_
    | refine r_done ?_
    | (refine r_id ?_; first
      | refine r_ev tab_ok rfl rfl rfl rfl (by first | exact trivial | exact ⟨by omega, by omega⟩ | omega | exact ⟨by omega, by omega, by omega, by omega⟩ | exact Nat.le_of_ble_eq_true rfl) rfl ?_
      | refine r_range tab_ok rfl rfl rfl rfl rfl rfl rfl ?_))
  refine a_loop (σ := FS s) (fun x => [.row 0 95 2 (x.out.map spD), .iter s x.pos]) (fun x => [(0, .val (.string s)), (1, .cl 55 []), (5, .row 0 0), (6, .val (.int .i64 x.stI)), (14, .ptr 1 0)]) (fun x => s.size - x.pos)
    ⟨0, none, -1, [], Nat.zero_le _, fun _ => by omega, fun a h => (by cases h), ⟨by omega, by omega⟩, rfl⟩ (fits_conv (by repeat' first | exact trivial | exact rfl | (rw [List.map_append]; first | done | rfl) | exact c_sub rfl (Sub.refl _) rfl | exact c_nil rfl rfl | exact c_thaw rfl rfl rfl | exact c_row rfl rfl rfl | exact c_row rfl rfl (by rw [List.map_append]; first | done | rfl) | exact c_ptr rfl rfl rfl rfl | exact Or.inl ⟨c_sub rfl (Sub.refl _) rfl, c_ptr rfl rfl rfl rfl⟩ | exact c_alt rfl rfl rfl rfl | exact c_ro rfl rfl | exact c_eo rfl rfl | exact c_sub rfl (Sub.altl _ _) rfl | exact c_sub rfl (Sub.nil _) rfl | refine ⟨_, _, rfl, ?_, ?_⟩ | apply And.intro) (by repeat' first | exact trivial | exact rfl | (rw [List.map_append]; first | done | rfl) | exact c_sub rfl (Sub.refl _) rfl | exact c_nil rfl rfl | exact c_thaw rfl rfl rfl | exact c_row rfl rfl rfl | exact c_row rfl rfl (by rw [List.map_append]; first | done | rfl) | exact c_ptr rfl rfl rfl rfl | exact Or.inl ⟨c_sub rfl (Sub.refl _) rfl, c_ptr rfl rfl rfl rfl⟩ | exact c_alt rfl rfl rfl rfl | exact c_ro rfl rfl | exact c_eo rfl rfl | exact c_sub rfl (Sub.altl _ _) rfl | exact c_sub rfl (Sub.nil _) rfl | refine ⟨_, _, rfl, ?_, ?_⟩ | apply And.intro)) ?_
  intro x
  have hxl := x.len
  obtain ⟨pos, st, stI, out, hp, h0, h1, hr, heq⟩ := x
  dsimp only at hxl ⊢
  have hol : (out.map spD).length = out.length := List.length_map _
  by_cases hlt : pos < s.size
  · have hsn := sp_sign hlt st
    obtain ⟨_, hd1, hd2, _, _⟩ := dec_sign s pos hlt
    repeat (first
      | refine awp_seq ?_
      | refine thenA_normal ?_
      | refine awp_block ?_
      | refine a_region ?_
      | refine awp_skip ?_
      | refine r_done ?_
      | (refine r_id ?_; first
        | refine r_ev tab_ok rfl rfl rfl rfl (by first | exact trivial | exact ⟨by omega, by omega⟩ | omega | exact ⟨by omega, by omega, by omega, by omega⟩ | exact Nat.le_of_ble_eq_true rfl) rfl ?_
        | refine r_next rfl rfl rfl rfl (by assumption) rfl rfl rfl ?_)
      | refine awp_cond_t rfl ?_)
    refine r_callv (white_ok _) call55 rfl rfl rfl ⟨Sub.refl _, trivial⟩ rfl rfl rfl rfl ?_
    repeat (first
      | refine thenA_normal ?_
      | refine r_done ?_)
    generalize hr2 : ((Utf8.decode s pos).1 : Int) = r at hsn ⊢
    generalize hq : pos + (Utf8.decode s pos).2 = q at hsn hd2 ⊢
    have hq' : pos < q := by omega
    refine awp_cond rfl (fun hw => ?_) (fun hw => ?_)
    · rw [if_pos hw] at hsn
      repeat (first
        | refine awp_seq ?_
        | refine thenA_normal ?_
        | refine a_region ?_
        | refine r_done ?_
        | (refine r_id ?_; first
          | refine r_ev tab_ok rfl rfl rfl rfl (by first | exact trivial | exact ⟨by omega, by omega⟩ | omega | exact ⟨by omega, by omega, by omega, by omega⟩ | exact Nat.le_of_ble_eq_true rfl) rfl ?_))
      cases st with
      | none =>
        have hneg := h0 rfl
        refine awp_cond_p rfl (fun h => absurd h (by omega)) (fun _ => ?_)
        repeat (first
          | refine thenA_normal ?_
          | refine blockA_normal ?_
          | refine awp_skip ?_)
        exact ⟨⟨q, none, stI, out, by omega, h0, h1, hr, by rw [← heq, hsn]; rfl⟩, by dsimp only; omega, fits_conv (by repeat' first | exact trivial | exact rfl | (rw [List.map_append]; first | done | rfl) | exact c_sub rfl (Sub.refl _) rfl | exact c_nil rfl rfl | exact c_thaw rfl rfl rfl | exact c_row rfl rfl rfl | exact c_row rfl rfl (by rw [List.map_append]; first | done | rfl) | exact c_ptr rfl rfl rfl rfl | exact Or.inl ⟨c_sub rfl (Sub.refl _) rfl, c_ptr rfl rfl rfl rfl⟩ | exact c_alt rfl rfl rfl rfl | exact c_ro rfl rfl | exact c_eo rfl rfl | exact c_sub rfl (Sub.altl _ _) rfl | exact c_sub rfl (Sub.nil _) rfl | refine ⟨_, _, rfl, ?_, ?_⟩ | apply And.intro) (by repeat' first | exact trivial | exact rfl | (rw [List.map_append]; first | done | rfl) | exact c_sub rfl (Sub.refl _) rfl | exact c_nil rfl rfl | exact c_thaw rfl rfl rfl | exact c_row rfl rfl rfl | exact c_row rfl rfl (by rw [List.map_append]; first | done | rfl) | exact c_ptr rfl rfl rfl rfl | exact Or.inl ⟨c_sub rfl (Sub.refl _) rfl, c_ptr rfl rfl rfl rfl⟩ | exact c_alt rfl rfl rfl rfl | exact c_ro rfl rfl | exact c_eo rfl rfl | exact c_sub rfl (Sub.altl _ _) rfl | exact c_sub rfl (Sub.nil _) rfl | refine ⟨_, _, rfl, ?_, ?_⟩ | apply And.intro)⟩
      | some a =>
        have ha := h1 a rfl
        subst ha
        refine awp_cond_p rfl (fun _ => ?_) (fun h => absurd (by omega) h)
        repeat (first
          | refine awp_seq ?_
          | refine thenA_normal ?_
          | refine a_region ?_
          | refine r_done ?_
          | (refine r_id ?_; first
            | refine r_ev tab_ok rfl rfl rfl rfl (by first | exact trivial | exact ⟨by omega, by omega⟩ | omega | exact ⟨by omega, by omega, by omega, by omega⟩ | exact Nat.le_of_ble_eq_true rfl) rfl ?_
            | refine r_build tab_ok rfl rfl rfl rfl rfl rfl ?_
            | refine r_built tab_ok rfl rfl rfl rfl rfl rfl rfl rfl rfl ?_
            | refine r_append tab_ok rfl rfl rfl rfl rfl rfl rfl rfl rfl (by first | omega | (simp; omega)) rfl ?_))
        refine r_by1 (astep_not64 rfl rfl (by omega)) rfl rfl rfl rfl rfl ?_
        repeat (first
          | refine thenA_normal ?_
          | refine blockA_normal ?_
          | refine r_done ?_
          | (refine r_id ?_; first
            | refine r_ev tab_ok rfl rfl rfl rfl (by first | exact trivial | exact ⟨by omega, by omega⟩ | omega | exact ⟨by omega, by omega, by omega, by omega⟩ | exact Nat.le_of_ble_eq_true rfl) rfl ?_))
        refine ⟨⟨q, none, -1 - (a : Int), out ++ [(a, pos)], by omega, fun _ => by omega, fun b h => (by cases h), ⟨by omega, by omega⟩, by rw [← heq, hsn]; simp⟩, by dsimp only; omega, ?_⟩
        dsimp only
        rw [List.map_append]
        exact fits_conv (by repeat' first | exact trivial | exact rfl | (rw [List.map_append]; first | done | rfl) | exact c_sub rfl (Sub.refl _) rfl | exact c_nil rfl rfl | exact c_thaw rfl rfl rfl | exact c_row rfl rfl rfl | exact c_row rfl rfl (by rw [List.map_append]; first | done | rfl) | exact c_ptr rfl rfl rfl rfl | exact Or.inl ⟨c_sub rfl (Sub.refl _) rfl, c_ptr rfl rfl rfl rfl⟩ | exact c_alt rfl rfl rfl rfl | exact c_ro rfl rfl | exact c_eo rfl rfl | exact c_sub rfl (Sub.altl _ _) rfl | exact c_sub rfl (Sub.nil _) rfl | refine ⟨_, _, rfl, ?_, ?_⟩ | apply And.intro) (by repeat' first | exact trivial | exact rfl | (rw [List.map_append]; first | done | rfl) | exact c_sub rfl (Sub.refl _) rfl | exact c_nil rfl rfl | exact c_thaw rfl rfl rfl | exact c_row rfl rfl rfl | exact c_row rfl rfl (by rw [List.map_append]; first | done | rfl) | exact c_ptr rfl rfl rfl rfl | exact Or.inl ⟨c_sub rfl (Sub.refl _) rfl, c_ptr rfl rfl rfl rfl⟩ | exact c_alt rfl rfl rfl rfl | exact c_ro rfl rfl | exact c_eo rfl rfl | exact c_sub rfl (Sub.altl _ _) rfl | exact c_sub rfl (Sub.nil _) rfl | refine ⟨_, _, rfl, ?_, ?_⟩ | apply And.intro)
    · rw [hw, if_neg Bool.false_ne_true] at hsn
      repeat (first
        | refine awp_seq ?_
        | refine thenA_normal ?_
        | refine a_region ?_
        | refine r_done ?_
        | (refine r_id ?_; first
          | refine r_ev tab_ok rfl rfl rfl rfl (by first | exact trivial | exact ⟨by omega, by omega⟩ | omega | exact ⟨by omega, by omega, by omega, by omega⟩ | exact Nat.le_of_ble_eq_true rfl) rfl ?_))
      cases st with
      | none =>
        have hneg := h0 rfl
        refine awp_cond_p rfl (fun _ => ?_) (fun h => absurd (by omega) h)
        repeat (first
          | refine thenA_normal ?_
          | refine a_region ?_
          | refine blockA_normal ?_
          | refine r_done ?_
          | (refine r_id ?_; first
            | refine r_ev tab_ok rfl rfl rfl rfl (by first | exact trivial | exact ⟨by omega, by omega⟩ | omega | exact ⟨by omega, by omega, by omega, by omega⟩ | exact Nat.le_of_ble_eq_true rfl) rfl ?_))
        exact ⟨⟨q, some pos, pos, out, by omega, fun h => (by cases h), fun a h => (by cases h; rfl), ⟨by omega, by omega⟩, by rw [← heq, hsn]; rfl⟩, by dsimp only; omega, fits_conv (by repeat' first | exact trivial | exact rfl | (rw [List.map_append]; first | done | rfl) | exact c_sub rfl (Sub.refl _) rfl | exact c_nil rfl rfl | exact c_thaw rfl rfl rfl | exact c_row rfl rfl rfl | exact c_row rfl rfl (by rw [List.map_append]; first | done | rfl) | exact c_ptr rfl rfl rfl rfl | exact Or.inl ⟨c_sub rfl (Sub.refl _) rfl, c_ptr rfl rfl rfl rfl⟩ | exact c_alt rfl rfl rfl rfl | exact c_ro rfl rfl | exact c_eo rfl rfl | exact c_sub rfl (Sub.altl _ _) rfl | exact c_sub rfl (Sub.nil _) rfl | refine ⟨_, _, rfl, ?_, ?_⟩ | apply And.intro) (by repeat' first | exact trivial | exact rfl | (rw [List.map_append]; first | done | rfl) | exact c_sub rfl (Sub.refl _) rfl | exact c_nil rfl rfl | exact c_thaw rfl rfl rfl | exact c_row rfl rfl rfl | exact c_row rfl rfl (by rw [List.map_append]; first | done | rfl) | exact c_ptr rfl rfl rfl rfl | exact Or.inl ⟨c_sub rfl (Sub.refl _) rfl, c_ptr rfl rfl rfl rfl⟩ | exact c_alt rfl rfl rfl rfl | exact c_ro rfl rfl | exact c_eo rfl rfl | exact c_sub rfl (Sub.altl _ _) rfl | exact c_sub rfl (Sub.nil _) rfl | refine ⟨_, _, rfl, ?_, ?_⟩ | apply And.intro)⟩
      | some a =>
        have ha := h1 a rfl
        subst ha
        refine awp_cond_p rfl (fun h => absurd h (by omega)) (fun _ => ?_)
        repeat (first
          | refine thenA_normal ?_
          | refine blockA_normal ?_
          | refine awp_skip ?_)
        exact ⟨⟨q, some a, a, out, by omega, fun h => (by cases h), h1, hr, by rw [← heq, hsn]; rfl⟩, by dsimp only; omega, fits_conv (by repeat' first | exact trivial | exact rfl | (rw [List.map_append]; first | done | rfl) | exact c_sub rfl (Sub.refl _) rfl | exact c_nil rfl rfl | exact c_thaw rfl rfl rfl | exact c_row rfl rfl rfl | exact c_row rfl rfl (by rw [List.map_append]; first | done | rfl) | exact c_ptr rfl rfl rfl rfl | exact Or.inl ⟨c_sub rfl (Sub.refl _) rfl, c_ptr rfl rfl rfl rfl⟩ | exact c_alt rfl rfl rfl rfl | exact c_ro rfl rfl | exact c_eo rfl rfl | exact c_sub rfl (Sub.altl _ _) rfl | exact c_sub rfl (Sub.nil _) rfl | refine ⟨_, _, rfl, ?_, ?_⟩ | apply And.intro) (by repeat' first | exact trivial | exact rfl | (rw [List.map_append]; first | done | rfl) | exact c_sub rfl (Sub.refl _) rfl | exact c_nil rfl rfl | exact c_thaw rfl rfl rfl | exact c_row rfl rfl rfl | exact c_row rfl rfl (by rw [List.map_append]; first | done | rfl) | exact c_ptr rfl rfl rfl rfl | exact Or.inl ⟨c_sub rfl (Sub.refl _) rfl, c_ptr rfl rfl rfl rfl⟩ | exact c_alt rfl rfl rfl rfl | exact c_ro rfl rfl | exact c_eo rfl rfl | exact c_sub rfl (Sub.altl _ _) rfl | exact c_sub rfl (Sub.nil _) rfl | refine ⟨_, _, rfl, ?_, ?_⟩ | apply And.intro)⟩
  · have hpe : pos = s.size := by omega
    subst hpe
    rw [List.drop_of_length_le (by omega)] at heq
    repeat (first
      | refine awp_seq ?_
      | refine thenA_normal ?_
      | refine a_region ?_
      | refine awp_exit ?_
      | refine r_done ?_
      | (refine r_id ?_; first
        | refine r_ev tab_ok rfl rfl rfl rfl (by first | exact trivial | exact ⟨by omega, by omega⟩ | omega | exact ⟨by omega, by omega, by omega, by omega⟩ | exact Nat.le_of_ble_eq_true rfl) rfl ?_
        | refine r_next_end rfl rfl rfl rfl (by assumption) rfl rfl rfl ?_)
      | refine awp_cond_f rfl ?_)
    obtain ⟨sps, hsps⟩ : ∃ sps, sps = spans s := ⟨_, rfl⟩
    have hfit : ∀ p ∈ sps, p.1 ≤ p.2 ∧ p.2 ≤ s.size := fun p hp => by
      have := sp_ok s.data.toList none 0 (fun a h => by cases h) p (by rw [hsps] at hp; exact hp)
      omega
    have hsl : sps.length ≤ s.size + 1 := by
      have := sp_len s.data.toList none 0
      rw [hsps, spans]; omega
    have hwords : wordsF s = sps.map fun p => s.extract p.1 p.2 := by rw [hsps]; rfl
    refine awp_cutw ⟨[.row 0 95 2 (sps.map spD)], [(0, .val (.string s)), (5, .row 0 0)]⟩ ?_ ?_
    · cases st with
      | none =>
        rw [sp, List.append_nil] at heq
        have hneg := h0 rfl
        refine awp_cond_p rfl (fun h => absurd h (by omega)) (fun _ => ?_)
        repeat (first
          | refine awp_skip ?_)
        refine ⟨rfl, ?_⟩
        rw [hsps, ← heq]
        exact fits_drop 1 rfl rfl (by repeat' first | exact trivial | exact Sub.refl _ | exact rfl | apply And.intro)
      | some a =>
        rw [sp] at heq
        have ha := h1 a rfl
        subst ha
        refine awp_cond_p rfl (fun _ => ?_) (fun h => absurd (by omega) h)
        repeat (first
          | refine a_region ?_
          | refine r_done ?_
          | (refine r_id ?_; first
            | refine r_ev tab_ok rfl rfl rfl rfl (by first | exact trivial | exact ⟨by omega, by omega⟩ | omega | exact ⟨by omega, by omega, by omega, by omega⟩ | exact Nat.le_of_ble_eq_true rfl) rfl ?_
            | refine r_build tab_ok rfl rfl rfl rfl rfl rfl ?_
            | refine r_built tab_ok rfl rfl rfl rfl rfl rfl rfl rfl rfl ?_
            | refine r_append tab_ok rfl rfl rfl rfl rfl rfl rfl rfl rfl (by first | omega | (simp; omega)) rfl ?_))
        refine ⟨rfl, ?_⟩
        rw [hsps, ← heq, List.map_append]
        exact fits_tr (s' := ⟨[.row 2 95 2 (out.map spD ++ [spD (a, s.size)])], [(0, .val (.string s)), (5, .row 0 2)]⟩) (fits_drop 1 rfl rfl (by repeat' first | exact trivial | exact Sub.refl _ | exact rfl | apply And.intro)) (fits_conv (by repeat' first | exact trivial | exact rfl | (rw [List.map_append]; first | done | rfl) | exact c_sub rfl (Sub.refl _) rfl | exact c_nil rfl rfl | exact c_thaw rfl rfl rfl | exact c_row rfl rfl rfl | exact c_row rfl rfl (by rw [List.map_append]; first | done | rfl) | exact c_ptr rfl rfl rfl rfl | exact Or.inl ⟨c_sub rfl (Sub.refl _) rfl, c_ptr rfl rfl rfl rfl⟩ | exact c_alt rfl rfl rfl rfl | exact c_ro rfl rfl | exact c_eo rfl rfl | exact c_sub rfl (Sub.altl _ _) rfl | exact c_sub rfl (Sub.nil _) rfl | refine ⟨_, _, rfl, ?_, ?_⟩ | apply And.intro) (by repeat' first | exact trivial | exact rfl | (rw [List.map_append]; first | done | rfl) | exact c_sub rfl (Sub.refl _) rfl | exact c_nil rfl rfl | exact c_thaw rfl rfl rfl | exact c_row rfl rfl rfl | exact c_row rfl rfl (by rw [List.map_append]; first | done | rfl) | exact c_ptr rfl rfl rfl rfl | exact Or.inl ⟨c_sub rfl (Sub.refl _) rfl, c_ptr rfl rfl rfl rfl⟩ | exact c_alt rfl rfl rfl rfl | exact c_ro rfl rfl | exact c_eo rfl rfl | exact c_sub rfl (Sub.altl _ _) rfl | exact c_sub rfl (Sub.nil _) rfl | refine ⟨_, _, rfl, ?_, ?_⟩ | apply And.intro))
    · have hspm : (sps.map spD).length = sps.length := List.length_map _
      rw [hwords]
      repeat (first
        | refine awp_seq ?_
        | refine a_region ?_
        | (refine r_id ?_; first
          | refine r_ev tab_ok rfl rfl rfl rfl (by first | exact trivial | exact ⟨by omega, by omega⟩ | omega | exact ⟨by omega, by omega, by omega, by omega⟩ | exact Nat.le_of_ble_eq_true rfl) rfl ?_
          | refine r_ld tab_ok rfl rfl rfl rfl rfl ?_))
      refine r_by2 (astep_make_words (n := (sps.map spD).length) (v := .string ⟨#[]⟩) tab_ok rfl rfl rfl rfl rfl rfl rfl (by show 16 * _ ≤ _; omega) (by omega)) rfl rfl rfl rfl rfl ?_
      repeat (first
        | refine awp_seq ?_
        | refine thenA_normal ?_
        | refine awp_block ?_
        | refine a_region ?_
        | refine r_done ?_
        | (refine r_id ?_; first
          | refine r_ev tab_ok rfl rfl rfl rfl (by first | exact trivial | exact ⟨by omega, by omega⟩ | omega | exact ⟨by omega, by omega, by omega, by omega⟩ | exact Nat.le_of_ble_eq_true rfl) rfl ?_
          | refine r_ld tab_ok rfl rfl rfl rfl rfl ?_))
      rw [hspm]
      refine a_loop (σ := {i : Nat // i ≤ sps.length}) (fun x => [.row 0 95 2 (sps.map spD), .row 0 9 1 (((sps.take x.1).map (fun p => s.extract p.1 p.2) ++ List.replicate (sps.length - x.1) emS).map sD)])
        (fun x => [(0, .val (.string s)), (9, .row 1 0), (47, .row 0 0), (48, .val (.int .i64 sps.length)), (49, .val (.int .i64 x.1))]) (fun x => sps.length - x.1) ⟨0, Nat.zero_le _⟩ ?_ ?_
      · rw [List.take_zero, List.map_nil, List.nil_append, Nat.sub_zero, List.map_replicate]
        exact fits_of rfl (by repeat' first | exact trivial | exact Sub.refl _ | exact rfl | apply And.intro)
      rintro ⟨i, hi⟩
      dsimp only
      obtain ⟨cur, hcur⟩ : ∃ cur, cur = (sps.take i).map (fun p => s.extract p.1 p.2) ++ List.replicate (sps.length - i) emS := ⟨_, rfl⟩
      rw [← hcur]
      have hcl : cur.length = sps.length := by rw [hcur, List.length_append, List.length_map, List.length_take, List.length_replicate]; omega
      have hcm : (cur.map sD).length = sps.length := by rw [List.length_map, hcl]
      repeat (first
        | refine awp_seq ?_
        | refine a_region ?_
        | refine r_done ?_
        | (refine r_id ?_; first
          | refine r_ev tab_ok rfl rfl rfl rfl (by first | exact trivial | exact ⟨by omega, by omega⟩ | omega | exact ⟨by omega, by omega, by omega, by omega⟩ | exact Nat.le_of_ble_eq_true rfl) rfl ?_))
      refine awp_cond_p rfl (fun hlt => ?_) (fun hge => ?_)
      · have hi' : i < sps.length := by omega
        have hf := hfit sps[i] (List.getElem_mem hi')
        have hset : cur.set i (s.extract sps[i].1 sps[i].2) = (sps.take (i + 1)).map (fun p => s.extract p.1 p.2) ++ List.replicate (sps.length - (i + 1)) emS := by
          have h1 : sps.length - i = (sps.length - (i + 1)) + 1 := by omega
          have h2 : ((sps.take i).map (fun p => s.extract p.1 p.2)).length = i := by rw [List.length_map, List.length_take]; omega
          rw [hcur, h1, List.replicate_succ]
          rw [List.set_append_right _ _ (by omega), h2, Nat.sub_self, List.set_cons_zero, List.take_add_one, List.getElem?_eq_getElem hi', List.map_append]
          simp
        repeat (first
          | refine awp_seq ?_
          | refine thenA_normal ?_
          | refine awp_block ?_
          | refine a_region ?_
          | refine awp_skip ?_
          | refine r_done ?_
          | (refine r_id ?_; first
            | refine r_ev tab_ok rfl rfl rfl rfl (by first | exact trivial | exact ⟨by omega, by omega⟩ | omega | exact ⟨by omega, by omega, by omega, by omega⟩ | exact Nat.le_of_ble_eq_true rfl) rfl ?_
            | refine r_ld tab_ok rfl rfl rfl rfl rfl ?_
            | refine r_wr tab_ok rfl rfl rfl rfl rfl ?_
            | refine r_st tab_ok rfl rfl rfl rfl ?_
            | refine r_scut tab_ok rfl rfl rfl rfl rfl rfl rfl rfl (by first | (simp; done) | exact ⟨by simp, by simp; omega, by simp; omega⟩ | (simp; omega)) rfl ?_
            | refine r_idxr tab_ok rfl rfl rfl rfl rfl rfl rfl rfl (by first | exact ⟨by omega, by omega⟩ | (simp; omega)) rfl ?_
            | refine r_lde tab_ok rfl rfl rfl rfl rfl (by omega) rfl rfl rfl rfl ?_))
        simp only [Int.toNat_natCast]
        refine r_ste tab_ok (s.extract sps[i].1 sps[i].2) rfl rfl rfl rfl rfl (by omega) rfl rfl rfl rfl rfl rfl ?_
        rw [hset]
        repeat (first
          | refine thenA_normal ?_
          | refine a_region ?_
          | refine r_done ?_
          | (refine r_id ?_; first
            | refine r_ev tab_ok rfl rfl rfl rfl (by first | exact trivial | exact ⟨by omega, by omega⟩ | omega | exact ⟨by omega, by omega, by omega, by omega⟩ | exact Nat.le_of_ble_eq_true rfl) rfl ?_))
        exact ⟨⟨i + 1, by omega⟩, by dsimp only; omega, fits_drop 2 rfl rfl (by repeat' first | exact trivial | exact Sub.refl _ | exact rfl | apply And.intro)⟩
      · have : i = sps.length := by omega
        subst this
        rw [Nat.sub_self, List.replicate_zero, List.append_nil, List.take_length] at hcur
        rw [hcur]
        repeat (first
          | refine awp_seq ?_
          | refine thenA_normal ?_
          | refine a_region ?_
          | refine awp_ret ?_
          | refine awp_exit ?_
          | refine r_done ?_
          | (refine r_id ?_; first
            | refine r_ev tab_ok rfl rfl rfl rfl (by first | exact trivial | exact ⟨by omega, by omega⟩ | omega | exact ⟨by omega, by omega, by omega, by omega⟩ | exact Nat.le_of_ble_eq_true rfl) rfl ?_)
          | refine ret1_row (by first | exact .inl rfl | exact .inr rfl) rfl rfl rfl ?_)
        exact Sub.refl _
theorem words_ok (s : ByteArray) (hs : s.size ≤ 1099511627776) : PCalls Try.prog 38 [.val (.string s)] (.sl 1 ((wordsF s).map sD)) := by
  refine p_start Try.func38 Try.ntmps38 rfl rfl rfl fun S w => ?_
  repeat (first
    | refine awp_seq ?_
    | refine a_region ?_
    | refine r_done ?_
    | (refine r_id ?_; first
      | refine r_ev tab_ok rfl rfl rfl rfl (by first | exact trivial | exact ⟨by omega, by omega⟩ | omega | exact ⟨by omega, by omega, by omega, by omega⟩ | exact Nat.le_of_ble_eq_true rfl) rfl ?_))
  refine r_call (fields_ok s hs) call54 rfl rfl ⟨Sub.refl _, Sub.refl _, trivial⟩ rfl rfl rfl rfl ?_
  repeat (first
    | refine thenA_normal ?_
    | refine awp_ret ?_
    | refine r_done ?_
    | (refine r_id ?_; first
      | refine r_ev tab_ok rfl rfl rfl rfl (by first | exact trivial | exact ⟨by omega, by omega⟩ | omega | exact ⟨by omega, by omega, by omega, by omega⟩ | exact Nat.le_of_ble_eq_true rfl) rfl ?_)
    | refine ret1 (by first | exact .inl rfl | exact .inr rfl) rfl rfl rfl ?_)
  exact Sub.refl _
def idxF (l : List ByteArray) (w : ByteArray) : Int := if l.findIdx (fun x => decide (w = x)) < l.length then l.findIdx (fun x => decide (w = x)) else -1
theorem index_ok (l : List ByteArray) (w : ByteArray) (hl : l.length ≤ 4611686018427387904) : PCalls Try.prog 53 [.sl 1 (l.map sD), .val (.string w)] (.val (.int .i64 (idxF l w))) := by
  refine p_start Try.func53 Try.ntmps53 rfl rfl rfl fun S w0 => ?_
  repeat (first
    | refine awp_seq ?_
    | refine thenA_normal ?_
    | refine awp_block ?_
    | refine a_region ?_
    | refine r_done ?_
    | (refine r_id ?_; first
      | refine r_len tab_ok rfl rfl rfl rfl rfl rfl rfl ?_
      | refine r_ev tab_ok rfl rfl rfl rfl (by first | exact trivial | exact ⟨by omega, by omega⟩ | omega | exact ⟨by omega, by omega, by omega, by omega⟩ | exact Nat.le_of_ble_eq_true rfl) rfl ?_))
  refine a_loop (σ := {i : Nat // i ≤ l.findIdx (fun x => decide (w = x))}) (fun _ => []) (fun x => [(0, .sl 1 (l.map sD)), (1, .val (.string w)), (7, .val (.int .i64 l.length)), (8, .val (.int .i64 x.1))]) (fun x => l.length - x.1) ⟨0, Nat.zero_le _⟩
    (fits_of rfl ⟨Sub.refl _, Sub.refl _, Sub.refl _, Sub.refl _, trivial⟩) ?_
  rintro ⟨i, hi⟩
  dsimp only
  have hle := List.findIdx_le_length (p := fun x => decide (w = x)) (xs := l)
  repeat (first
    | refine awp_seq ?_
    | refine a_region ?_
    | refine r_done ?_
    | (refine r_id ?_; first
      | refine r_ev tab_ok rfl rfl rfl rfl (by first | exact trivial | exact ⟨by omega, by omega⟩ | omega | exact ⟨by omega, by omega, by omega, by omega⟩ | exact Nat.le_of_ble_eq_true rfl) rfl ?_))
  refine awp_cond_p rfl (fun hlt => ?_) (fun hge => ?_)
  · have hi' : i < l.length := by omega
    repeat (first
      | refine awp_seq ?_
      | refine thenA_normal ?_
      | refine awp_block ?_
      | refine a_region ?_
      | refine awp_skip ?_
      | refine r_done ?_
      | (refine r_id ?_; first
        | refine r_ev tab_ok rfl rfl rfl rfl (by first | exact trivial | exact ⟨by omega, by omega⟩ | omega | exact ⟨by omega, by omega, by omega, by omega⟩ | exact Nat.le_of_ble_eq_true rfl) rfl ?_
        | refine r_idx tab_ok rfl rfl rfl rfl rfl rfl rfl (by first | exact ⟨by omega, by omega⟩ | (simp; omega)) rfl rfl ?_))
    simp only [Int.toNat_natCast]
    refine awp_cond_p rfl (fun hb => ?_) (fun hb => ?_)
    · repeat (first
        | refine awp_seq ?_
        | refine thenA_normal ?_
        | refine a_region ?_
        | refine awp_ret ?_
        | refine thenA_ret ?_
        | refine blockA_ret ?_
        | refine r_done ?_
        | (refine r_id ?_; first
          | refine r_ev tab_ok rfl rfl rfl rfl (by first | exact trivial | exact ⟨by omega, by omega⟩ | omega | exact ⟨by omega, by omega, by omega, by omega⟩ | exact Nat.le_of_ble_eq_true rfl) rfl ?_)
        | refine ret1 (by first | exact .inl rfl | exact .inr rfl) rfl rfl rfl ?_)
      have : l.findIdx (fun x => decide (w = x)) = i := by
        rcases Nat.lt_or_eq_of_le hi with h | h
        · have := List.not_of_lt_findIdx h
          simp_all
        · exact h.symm
      exact Sub.of_eq (by rw [idxF, if_pos (by omega), this])
    · have : l.findIdx (fun x => decide (w = x)) ≠ i := fun h => by
        have := List.findIdx_getElem (p := fun x => decide (w = x)) (xs := l) (w := by omega)
        simp only [h] at this
        simp_all
      repeat (first
        | refine thenA_normal ?_
        | refine a_region ?_
        | refine awp_skip ?_
        | refine r_done ?_
        | (refine r_id ?_; first
          | refine r_ev tab_ok rfl rfl rfl rfl (by first | exact trivial | exact ⟨by omega, by omega⟩ | omega | exact ⟨by omega, by omega, by omega, by omega⟩ | exact Nat.le_of_ble_eq_true rfl) rfl ?_))
      exact ⟨⟨i + 1, by omega⟩, by dsimp only; omega, fits_of rfl ⟨Sub.refl _, Sub.refl _, Sub.refl _, Sub.refl _, trivial⟩⟩
  · repeat (first
      | refine awp_seq ?_
      | refine thenA_normal ?_
      | refine a_region ?_
      | refine awp_ret ?_
      | refine awp_exit ?_
      | refine r_done ?_
      | (refine r_id ?_; first
        | refine r_ev tab_ok rfl rfl rfl rfl (by first | exact trivial | exact ⟨by omega, by omega⟩ | omega | exact ⟨by omega, by omega, by omega, by omega⟩ | exact Nat.le_of_ble_eq_true rfl) rfl ?_)
      | refine ret1 (by first | exact .inl rfl | exact .inr rfl) rfl rfl rfl ?_)
    exact Sub.of_eq (by rw [idxF, if_neg (by omega)])
theorem contains_ok (l : List ByteArray) (w : ByteArray) (hl : l.length ≤ 4611686018427387904) : PCalls Try.prog 37 [.sl 1 (l.map sD), .val (.string w)] (.val (.bool (l.any fun x => decide (w = x)))) := by
  refine p_start Try.func37 Try.ntmps37 rfl rfl rfl fun S w0 => ?_
  repeat (first
    | refine awp_seq ?_
    | refine a_region ?_
    | refine r_done ?_
    | (refine r_id ?_; first
      | refine r_ev tab_ok rfl rfl rfl rfl (by first | exact trivial | exact ⟨by omega, by omega⟩ | omega | exact ⟨by omega, by omega, by omega, by omega⟩ | exact Nat.le_of_ble_eq_true rfl) rfl ?_))
  refine r_call (index_ok l w hl) call53 rfl rfl ⟨Sub.refl _, Sub.refl _, trivial⟩ rfl rfl rfl rfl ?_
  repeat (first
    | refine thenA_normal ?_
    | refine awp_ret ?_
    | refine r_done ?_
    | (refine r_id ?_; first
      | refine r_ev tab_ok rfl rfl rfl rfl (by first | exact trivial | exact ⟨by omega, by omega⟩ | omega | exact ⟨by omega, by omega, by omega, by omega⟩ | exact Nat.le_of_ble_eq_true rfl) rfl ?_)
    | refine ret1 (by first | exact .inl rfl | exact .inr rfl) rfl rfl rfl ?_)
  exact Sub.of_eq (by rw [← findR_any]; rfl)
def clsS : ByteArray := ⟨#[99, 108, 97, 115, 115]⟩
def hasF (gs : List Nt) (i : Int) (w : ByteArray) : Bool := (wordsF (attrF gs i clsS).1).any fun x => decide (w = x)
theorem wordsF_len (s : ByteArray) : (wordsF s).length ≤ s.size + 1 := by
  rw [wordsF, List.length_map, spans]
  have := sp_len s.data.toList none 0
  rw [str_size] at this
  exact this
theorem hascls_ok (gs : List Nt) (i : Int) (w : ByteArray) (hg : gs.length ≤ 1099511627776) (hk : ∀ n ∈ gs, n.r.attrs.length ≤ 1099511627776) (hv : ∀ n, (attrF gs i n).1.size ≤ 1099511627776) : PCalls Try.prog 16 [trA gs, .val (.int .i64 i), .val (.string w)] (.val (.bool (hasF gs i w))) := by
  refine p_start Try.func16 Try.ntmps16 rfl rfl rfl fun S w0 => ?_
  have hwl := wordsF_len (attrF gs i clsS).1
  have hv := hv clsS
  repeat (first
    | refine awp_seq ?_
    | refine a_region ?_
    | refine r_done ?_
    | (refine r_id ?_; first
      | refine r_ev tab_ok rfl rfl rfl rfl (by first | exact trivial | exact ⟨by omega, by omega⟩ | omega | exact ⟨by omega, by omega, by omega, by omega⟩ | exact Nat.le_of_ble_eq_true rfl) rfl ?_))
  refine r_call (attr_ok gs i clsS hg hk) call14 rfl rfl ⟨Sub.refl _, Sub.refl _, Sub.refl _, trivial⟩ rfl rfl rfl rfl ?_
  repeat (first
    | refine awp_seq ?_
    | refine a_region ?_
    | refine r_done ?_
    | (refine r_id ?_; first
      | refine r_ev tab_ok rfl rfl rfl rfl (by first | exact trivial | exact ⟨by omega, by omega⟩ | omega | exact ⟨by omega, by omega, by omega, by omega⟩ | exact Nat.le_of_ble_eq_true rfl) rfl ?_))
  refine r_call (words_ok _ hv) call38 rfl rfl ⟨Sub.refl _, trivial⟩ rfl rfl rfl rfl ?_
  repeat (first
    | (refine r_id ?_; first
      | refine r_ev tab_ok rfl rfl rfl rfl (by first | exact trivial | exact ⟨by omega, by omega⟩ | omega | exact ⟨by omega, by omega, by omega, by omega⟩ | exact Nat.le_of_ble_eq_true rfl) rfl ?_))
  refine r_call (contains_ok _ w (by omega)) call37 rfl rfl ⟨Sub.refl _, Sub.refl _, trivial⟩ rfl rfl rfl rfl ?_
  repeat (first
    | refine thenA_normal ?_
    | refine awp_ret ?_
    | refine r_done ?_
    | (refine r_id ?_; first
      | refine r_ev tab_ok rfl rfl rfl rfl (by first | exact trivial | exact ⟨by omega, by omega⟩ | omega | exact ⟨by omega, by omega, by omega, by omega⟩ | exact Nat.le_of_ble_eq_true rfl) rfl ?_)
    | refine ret1 (by first | exact .inl rfl | exact .inr rfl) rfl rfl rfl ?_)
  exact Sub.refl _
end Go.Proofs.Ytklodolkgdmhoaa

/- The engine: data said otherwise (a nil slice is an empty one). fleuronalike: Ints, Round, Table. -/
namespace Go.Proofs.Ytklodolkgdmhoaa
open Go Go.RowKit

def DSub (d d' : D) : Prop := d.width = d'.width ∧ ∀ w imm cs, DenC w imm d cs → DenC w imm d' cs
def DSubs : List D → List D → Prop
  | [], [] => True
  | d :: ds, e :: es => DSub d e ∧ DSubs ds es
  | _, _ => False
theorem DSub.refl (d : D) : DSub d d := ⟨rfl, fun _ _ _ h => h⟩
theorem DSubs.refl : ∀ l : List D, DSubs l l
  | [] => trivial
  | d :: r => ⟨DSub.refl d, DSubs.refl r⟩
theorem DSub.nil (k : Nat) : DSub (.val (.slice none 0 0)) (.sl k []) := ⟨rfl, fun w imm cs h => by
  rw [h.1]
  exact ⟨none, 0, 0, rfl, rfl, Nat.le_refl _, Nat.zero_le _, by simp [AllW], fun h => absurd h (by omega)⟩⟩
theorem DSubs.widths : ∀ {l l' : List D}, DSubs l l' → D.widths l = D.widths l'
  | [], [], _ => rfl
  | d :: ds, e :: es, h => by rw [D.widths, D.widths, h.1.1, DSubs.widths h.2]
theorem DSubs.den {w : World} {imm : Nat → Prop} : ∀ {l l' : List D} {cs : List Value}, DSubs l l' → DenCs w imm l cs → DenCs w imm l' cs
  | [], [], _, _, h => h
  | d :: ds, e :: es, _, hs, ⟨c1, c2, h1, h2, h3⟩ => ⟨c1, c2, h1, hs.1.2 _ _ _ h2, DSubs.den hs.2 h3⟩
theorem DSub.ag {l l' : List D} (h : DSubs l l') : DSub (.ag l) (.ag l') := ⟨h.widths, fun _ _ _ hd => h.den hd⟩
theorem DSubs.len : ∀ {l l' : List D}, DSubs l l' → l.length = l'.length
  | [], [], _ => rfl
  | _ :: _, _ :: _, h => congrArg (· + 1) (DSubs.len h.2)
theorem DSubs.allW {k : Nat} : ∀ {l l' : List D}, DSubs l l' → AllW k l → AllW k l'
  | [], [], _, _ => fun _ h => by cases h
  | d :: ds, e :: es, h, hw => fun x hx => by
    rcases List.mem_cons.1 hx with rfl | hx
    · rw [← h.1.1]; exact hw d List.mem_cons_self
    · exact DSubs.allW h.2 (fun y hy => hw y (List.mem_cons_of_mem _ hy)) x hx
theorem DSub.sl {k : Nat} {l l' : List D} (h : DSubs l l') : DSub (.sl k l) (.sl k l') := ⟨rfl, fun w imm cs ⟨A, n, c, h1, h2, h3, h4, h5, h6⟩ =>
  ⟨A, n, c, h1, by rw [h2, h.len], h3, h4, h.allW h5, fun hn => by
    obtain ⟨g, off, rows, e1, e2, e3, e4⟩ := h6 hn
    exact ⟨g, off, rows, e1, e2, h.den e3, e4⟩⟩⟩
theorem Sub.sl {k : Nat} {l l' : List D} (h : DSubs l l') : Sub (.sl k l) (.sl k l') := fun _ _ _ _ _ hd => (DSub.sl h).2 _ _ _ hd
theorem DSubs.map {α : Type} {f g : α → D} : ∀ {l : List α}, (∀ x ∈ l, DSub (f x) (g x)) → DSubs (l.map f) (l.map g)
  | [], _ => trivial
  | x :: r, h => ⟨h x List.mem_cons_self, DSubs.map fun y hy => h y (List.mem_cons_of_mem _ hy)⟩
theorem pcalls_sub {P : Program} {f : FuncId} {args args' : List AV} {res : AV} (h : PCalls P f args res) (hs : Subs args' args) : PCalls P f args' res := fun S w vs hS hvs => h S w vs hS (hs.sat hvs)
theorem take_eq_at {a b : List Nat} {i : Nat} (h : a.take i = b.take i) (ha : i < a.length) (hb : i < b.length) (he : a[i] = b[i]) : a.take (i + 1) = b.take (i + 1) := by
  rw [List.take_add_one, List.take_add_one, h, List.getElem?_eq_getElem ha, List.getElem?_eq_getElem hb, he]
theorem ints_ok (a b : List Nat) (ha : a.length ≤ 1099511627776) (hb : b.length ≤ 1099511627776) : PCalls Try.prog 19 [.sl 1 (a.map nD), .sl 1 (b.map nD)] (.val (.bool (decide (a = b)))) := by
  refine p_start Try.func19 Try.ntmps19 rfl rfl rfl fun S w => ?_
  have hla : (a.map nD).length = a.length := List.length_map _
  have hlb : (b.map nD).length = b.length := List.length_map _
  repeat (first
    | refine awp_seq ?_
    | refine thenA_normal ?_
    | refine a_region ?_
    | refine r_done ?_
    | (refine r_id ?_; first
      | refine r_len tab_ok rfl rfl rfl rfl rfl rfl rfl ?_
      | refine r_ev tab_ok rfl rfl rfl rfl (by first | exact trivial | exact ⟨by omega, by omega⟩ | omega | exact ⟨by omega, by omega, by omega, by omega⟩ | exact Nat.le_of_ble_eq_true rfl) rfl ?_))
  refine awp_cond_n rfl (fun hne => ?_) (fun hl => ?_)
  · repeat (first
      | refine awp_seq ?_
      | refine thenA_normal ?_
      | refine a_region ?_
      | refine awp_ret ?_
      | refine thenA_ret ?_
      | refine r_done ?_
      | (refine r_id ?_; first
        | refine r_ev tab_ok rfl rfl rfl rfl (by first | exact trivial | exact ⟨by omega, by omega⟩ | omega | exact ⟨by omega, by omega, by omega, by omega⟩ | exact Nat.le_of_ble_eq_true rfl) rfl ?_)
      | refine ret1 (by first | exact .inl rfl | exact .inr rfl) rfl rfl rfl ?_)
    exact Sub.of_eq (by rw [decide_eq_false (fun e => hne (by rw [e]))])
  · have hl : a.length = b.length := by omega
    repeat (first
      | refine awp_seq ?_
      | refine thenA_normal ?_
      | refine awp_block ?_
      | refine a_region ?_
      | refine awp_skip ?_
      | refine r_done ?_
      | (refine r_id ?_; first
        | refine r_ev tab_ok rfl rfl rfl rfl (by first | exact trivial | exact ⟨by omega, by omega⟩ | omega | exact ⟨by omega, by omega, by omega, by omega⟩ | exact Nat.le_of_ble_eq_true rfl) rfl ?_))
    refine a_loop (σ := {i : Nat // i ≤ a.length ∧ a.take i = b.take i}) (fun _ => []) (fun x => [(0, .sl 1 (a.map nD)), (1, .sl 1 (b.map nD)), (5, .val (.int .i64 x.1))]) (fun x => a.length - x.1) ⟨0, Nat.zero_le _, rfl⟩ (fits_of rfl (by repeat' first | exact trivial | exact Sub.refl _ | exact rfl | apply And.intro)) ?_
    rintro ⟨i, hi, heq⟩
    dsimp only
    repeat (first
      | refine awp_seq ?_
      | refine thenA_normal ?_
      | refine a_region ?_
      | refine r_done ?_
      | (refine r_id ?_; first
        | refine r_len tab_ok rfl rfl rfl rfl rfl rfl rfl ?_
        | refine r_ev tab_ok rfl rfl rfl rfl (by first | exact trivial | exact ⟨by omega, by omega⟩ | omega | exact ⟨by omega, by omega, by omega, by omega⟩ | exact Nat.le_of_ble_eq_true rfl) rfl ?_))
    refine awp_cond_p rfl (fun hlt => ?_) (fun hge => ?_)
    · have hlt : i < a.length := by omega
      have hib : i < b.length := by omega
      repeat (first
        | refine awp_seq ?_
        | refine thenA_normal ?_
        | refine awp_block ?_
        | refine a_draw1 mixed_ok (by kernel_rfl) ?_
        | refine awp_skip ?_
        | refine r_done' ?_
        | (refine r_id ?_; first
          | refine r_ev tab_ok rfl rfl rfl rfl (by first | exact trivial | exact ⟨by omega, by omega⟩ | omega | exact ⟨by omega, by omega, by omega, by omega⟩ | exact Nat.le_of_ble_eq_true rfl) rfl ?_
          | refine r_idx tab_ok rfl rfl rfl rfl rfl rfl rfl (by first | exact ⟨by omega, by omega⟩ | (simp; omega)) rfl rfl ?_))
      simp only [Int.toNat_natCast]
      refine awp_cond_n (p := (a[i] : Int) = b[i]) rfl (fun hne => ?_) (fun he => ?_)
      · repeat (first
          | refine awp_seq ?_
          | refine thenA_normal ?_
          | refine a_region ?_
          | refine awp_ret ?_
          | refine thenA_ret ?_
          | refine blockA_ret ?_
          | refine r_done ?_
          | (refine r_id ?_; first
            | refine r_ev tab_ok rfl rfl rfl rfl (by first | exact trivial | exact ⟨by omega, by omega⟩ | omega | exact ⟨by omega, by omega, by omega, by omega⟩ | exact Nat.le_of_ble_eq_true rfl) rfl ?_)
          | refine ret1 (by first | exact .inl rfl | exact .inr rfl) rfl rfl rfl ?_)
        exact Sub.of_eq (by rw [decide_eq_false (fun e => hne (by subst e; rfl))])
      · repeat (first
          | refine thenA_normal ?_
          | refine a_region ?_
          | refine awp_skip ?_
          | refine r_done ?_
          | (refine r_id ?_; first
            | refine r_ev tab_ok rfl rfl rfl rfl (by first | exact trivial | exact ⟨by omega, by omega⟩ | omega | exact ⟨by omega, by omega, by omega, by omega⟩ | exact Nat.le_of_ble_eq_true rfl) rfl ?_))
        exact ⟨⟨i + 1, by omega, take_eq_at heq hlt hib (Int.ofNat.inj he)⟩, by dsimp only; omega, fits_of rfl (by repeat' first | exact trivial | exact Sub.refl _ | exact rfl | apply And.intro)⟩
    · have : i = a.length := by omega
      subst this
      rw [List.take_length, hl, List.take_length] at heq
      repeat (first
        | refine awp_seq ?_
        | refine thenA_normal ?_
        | refine a_region ?_
        | refine awp_ret ?_
        | refine awp_exit ?_
        | refine r_done ?_
        | (refine r_id ?_; first
          | refine r_ev tab_ok rfl rfl rfl rfl (by first | exact trivial | exact ⟨by omega, by omega⟩ | omega | exact ⟨by omega, by omega, by omega, by omega⟩ | exact Nat.le_of_ble_eq_true rfl) rfl ?_)
        | refine ret1 (by first | exact .inl rfl | exact .inr rfl) rfl rfl rfl ?_)
      exact Sub.of_eq (by rw [decide_eq_true heq])
theorem round_ok (k n : Int) (hn : 1 ≤ n) (hn2 : n ≤ 1099511627776) (hk : -9223372036854775808 ≤ k ∧ k ≤ 9223372036854775807) : PCalls Try.prog 9 [.val (.int .i64 k), .val (.int .i64 n)] (.val (.int .i64 ((k.tmod n + n) % n))) := by
  have h1 := Int.tmod_lt_of_pos k (show 0 < n by omega)
  have h2 := Int.lt_tmod_of_pos k (show 0 < n by omega)
  refine p_start Try.func9 Try.ntmps9 rfl rfl rfl fun S w => ?_
  repeat (first
    | refine awp_seq ?_
    | refine thenA_normal ?_
    | refine a_region ?_
    | refine awp_ret ?_
    | refine r_done ?_
    | (refine r_id ?_; first
      | refine r_ev tab_ok rfl rfl rfl rfl (by first | exact trivial | exact ⟨by omega, by omega⟩ | omega | exact ⟨by omega, by omega, by omega, by omega⟩ | exact Nat.le_of_ble_eq_true rfl) rfl ?_
      | refine r_rem rfl rfl rfl rfl rfl rfl (by omega) rfl ?_)
    | refine ret1 (by first | exact .inl rfl | exact .inr rfl) rfl rfl rfl ?_)
  exact Sub.refl _
def okA (a : At) : Bool := !decide (50 < a.name.size) && !decide (3000 < a.value.size)
def okRw (r : Rw) : Bool := !decide (50 < r.tag.size) && !decide (3000 < r.text.size) && !decide (8 < r.attrs.length) && r.attrs.all okA
def tableB (l : List Rw) : Bool := !decide (24 < l.length) && l.all okRw
theorem table_ok (l : List Rw) (hl : l.length ≤ 9223372036854775807) (hs : ∀ r ∈ l, r.attrs.length ≤ 9223372036854775807) : PCalls Try.prog 17 [.sl 4 (l.map rwD)] (.val (.bool (tableB l))) := by
  refine p_start Try.func17 Try.ntmps17 rfl rfl rfl fun S w => ?_
  have hlm : (l.map rwD).length = l.length := List.length_map _
  rw [tableB]
  repeat (first
    | refine awp_seq ?_
    | refine thenA_normal ?_
    | refine a_region ?_
    | refine r_done ?_
    | (refine r_id ?_; first
      | refine r_len tab_ok rfl rfl rfl rfl rfl rfl rfl ?_
      | refine r_ev tab_ok rfl rfl rfl rfl (by first | exact trivial | exact ⟨by omega, by omega⟩ | omega | exact ⟨by omega, by omega, by omega, by omega⟩ | exact Nat.le_of_ble_eq_true rfl) rfl ?_))
  refine awp_cond_p rfl (fun hbig => ?_) (fun hsm => ?_)
  · repeat (first
      | refine awp_seq ?_
      | refine thenA_normal ?_
      | refine a_region ?_
      | refine awp_ret ?_
      | refine thenA_ret ?_
      | refine r_done ?_
      | (refine r_id ?_; first
        | refine r_ev tab_ok rfl rfl rfl rfl (by first | exact trivial | exact ⟨by omega, by omega⟩ | omega | exact ⟨by omega, by omega, by omega, by omega⟩ | exact Nat.le_of_ble_eq_true rfl) rfl ?_)
      | refine ret1 (by first | exact .inl rfl | exact .inr rfl) rfl rfl rfl ?_)
    exact Sub.of_eq (by rw [decide_eq_true (by omega)]; rfl)
  · rw [show (!decide (24 < l.length) && l.all okRw) = l.all okRw by rw [decide_eq_false (by omega)]; rfl]
    repeat (first
      | refine awp_seq ?_
      | refine thenA_normal ?_
      | refine awp_block ?_
      | refine a_region ?_
      | refine awp_skip ?_
      | refine r_done ?_
      | (refine r_id ?_; first
        | refine r_ev tab_ok rfl rfl rfl rfl (by first | exact trivial | exact ⟨by omega, by omega⟩ | omega | exact ⟨by omega, by omega, by omega, by omega⟩ | exact Nat.le_of_ble_eq_true rfl) rfl ?_))
    refine a_loop (σ := {i : Nat // i ≤ l.length ∧ (l.take i).all okRw = true}) (fun _ => []) (fun x => [(0, .sl 4 (l.map rwD)), (3, .val (.int .i64 x.1))]) (fun x => l.length - x.1) ⟨0, Nat.zero_le _, rfl⟩ (fits_of rfl (by repeat' first | exact trivial | exact Sub.refl _ | exact rfl | apply And.intro)) ?_
    rintro ⟨i, hi, heq⟩
    dsimp only
    repeat (first
      | refine awp_seq ?_
      | refine thenA_normal ?_
      | refine a_region ?_
      | refine r_done ?_
      | (refine r_id ?_; first
        | refine r_len tab_ok rfl rfl rfl rfl rfl rfl rfl ?_
        | refine r_ev tab_ok rfl rfl rfl rfl (by first | exact trivial | exact ⟨by omega, by omega⟩ | omega | exact ⟨by omega, by omega, by omega, by omega⟩ | exact Nat.le_of_ble_eq_true rfl) rfl ?_))
    refine awp_cond_p rfl (fun hlt => ?_) (fun hge => ?_)
    · have hlt : i < l.length := by omega
      have hsa := hs l[i] (List.getElem_mem hlt)
      have hno : okRw l[i] = false → l.all okRw = false := fun h => by
        rw [List.all_eq_false]
        exact ⟨l[i], List.getElem_mem hlt, by rw [h]; exact Bool.false_ne_true⟩
      have hstep : okRw l[i] = true → (l.take (i + 1)).all okRw = true := fun h => by
        rw [List.take_add_one, List.getElem?_eq_getElem hlt, List.all_append, heq]
        simpa using h
      repeat (first
        | refine awp_seq ?_
        | refine thenA_normal ?_
        | refine awp_block ?_
        | refine a_region ?_
        | refine awp_skip ?_
        | refine r_done ?_
        | (refine r_id ?_; first
          | refine r_ev tab_ok rfl rfl rfl rfl (by first | exact trivial | exact ⟨by omega, by omega⟩ | omega | exact ⟨by omega, by omega, by omega, by omega⟩ | exact Nat.le_of_ble_eq_true rfl) rfl ?_
          | refine r_idx tab_ok rfl rfl rfl rfl rfl rfl rfl (by first | exact ⟨by omega, by omega⟩ | (simp; omega)) rfl rfl ?_
          | refine r_len_cnd tab_ok rfl rfl rfl rfl rfl rfl (by first | exact fun _ => rfl | exact cs1) rfl rfl rfl ?_
          | refine r_ev_cnd tab_ok rfl rfl rfl rfl rfl rfl (by first | exact fun _ => rfl | exact cs1 | exact cs2 | exact cs3) (by first | exact fun _ => trivial | (intro h; simp at h; first | exact ⟨by omega, by omega⟩ | omega)) rfl ?_
          | refine r_idx_cnd tab_ok rfl rfl rfl rfl rfl rfl rfl (by first | exact fun _ => rfl | exact cs1 | exact cs2) rfl rfl (by exact ⟨by omega, by omega⟩) rfl rfl ?_
          | refine r_or rfl rfl rfl rfl rfl rfl rfl rfl ?_))
      simp only [Int.toNat_natCast]
      refine awp_cond rfl (fun hc => ?_) (fun hc => ?_)
      · have : okRw l[i] = false := by
          simp only [Bool.or_eq_true, decide_eq_true_eq] at hc
          rw [okRw]
          rcases hc with (hc | hc) | hc
          · rw [decide_eq_true (show 50 < l[i].tag.size by omega)]; rfl
          · rw [decide_eq_true (show 3000 < l[i].text.size by omega)]; simp
          · rw [decide_eq_true (show 8 < l[i].attrs.length by omega)]; simp
        repeat (first
          | refine awp_seq ?_
          | refine thenA_normal ?_
          | refine a_region ?_
          | refine awp_ret ?_
          | refine thenA_ret ?_
          | refine blockA_ret ?_
          | refine r_done ?_
          | (refine r_id ?_; first
            | refine r_ev tab_ok rfl rfl rfl rfl (by first | exact trivial | exact ⟨by omega, by omega⟩ | omega | exact ⟨by omega, by omega, by omega, by omega⟩ | exact Nat.le_of_ble_eq_true rfl) rfl ?_)
          | refine ret1 (by first | exact .inl rfl | exact .inr rfl) rfl rfl rfl ?_)
        exact Sub.of_eq (by rw [hno this])
      · have hok : okRw l[i] = l[i].attrs.all okA := by
          simp only [Bool.or_eq_false_iff, decide_eq_false_iff_not] at hc
          rw [okRw, decide_eq_false (by omega), decide_eq_false (by omega), decide_eq_false (by omega)]
          rfl
        repeat (first
          | refine awp_seq ?_
          | refine thenA_normal ?_
          | refine awp_block ?_
          | refine a_region ?_
          | refine awp_skip ?_
          | refine r_done ?_
          | (refine r_id ?_; first
            | refine r_ev tab_ok rfl rfl rfl rfl (by first | exact trivial | exact ⟨by omega, by omega⟩ | omega | exact ⟨by omega, by omega, by omega, by omega⟩ | exact Nat.le_of_ble_eq_true rfl) rfl ?_))
        refine a_loop (σ := {j : Nat // j ≤ l[i].attrs.length ∧ (l[i].attrs.take j).all okA = true}) (fun _ => []) (fun x => [(0, .sl 4 (l.map rwD)), (3, .val (.int .i64 i)), (4, .val (.int .i64 x.1))]) (fun x => l[i].attrs.length - x.1) ⟨0, Nat.zero_le _, rfl⟩ (fits_of rfl (by repeat' first | exact trivial | exact Sub.refl _ | exact rfl | apply And.intro)) ?_
        rintro ⟨j, hj, hej⟩
        dsimp only
        repeat (first
          | refine awp_seq ?_
          | refine thenA_normal ?_
          | refine a_region ?_
          | refine r_done ?_
          | (refine r_id ?_; first
            | refine r_len tab_ok rfl rfl rfl rfl rfl rfl rfl ?_
            | refine r_ev tab_ok rfl rfl rfl rfl (by first | exact trivial | exact ⟨by omega, by omega⟩ | omega | exact ⟨by omega, by omega, by omega, by omega⟩ | exact Nat.le_of_ble_eq_true rfl) rfl ?_
            | refine r_idx tab_ok rfl rfl rfl rfl rfl rfl rfl (by first | exact ⟨by omega, by omega⟩ | (simp; omega)) rfl rfl ?_))
        simp only [Int.toNat_natCast]
        refine awp_cond_p rfl (fun hjl => ?_) (fun hjl => ?_)
        · have hjl : j < l[i].attrs.length := by omega
          have hnoA : okA l[i].attrs[j] = false → l[i].attrs.all okA = false := fun h => by
            rw [List.all_eq_false]
            exact ⟨l[i].attrs[j], List.getElem_mem hjl, by rw [h]; exact Bool.false_ne_true⟩
          repeat (first
            | refine awp_seq ?_
            | refine awp_block ?_
            | refine a_region ?_
            | refine awp_skip ?_
            | (refine r_id ?_; first
              | refine r_ev tab_ok rfl rfl rfl rfl (by first | exact trivial | exact ⟨by omega, by omega⟩ | omega | exact ⟨by omega, by omega, by omega, by omega⟩ | exact Nat.le_of_ble_eq_true rfl) rfl ?_
              | refine r_idx tab_ok rfl rfl rfl rfl rfl rfl rfl (by first | exact ⟨by omega, by omega⟩ | (simp; omega)) rfl rfl ?_
              | refine r_ev_cnd tab_ok rfl rfl rfl rfl rfl rfl (by first | exact fun _ => rfl | exact cs1 | exact cs2 | exact cs3) (by first | exact fun _ => trivial | (intro h; simp at h; first | exact ⟨by omega, by omega⟩ | omega)) rfl ?_
              | refine r_idx_cnd tab_ok rfl rfl rfl rfl rfl rfl rfl (by first | exact fun _ => rfl | exact cs1 | exact cs2) rfl rfl (by exact ⟨by omega, by omega⟩) rfl rfl ?_))
          simp only [Int.toNat_natCast]
          repeat (first
            | refine thenA_normal ?_
            | refine r_done ?_
            | (refine r_id ?_; first
              | refine r_ev_cnd tab_ok rfl rfl rfl rfl rfl rfl (by first | exact fun _ => rfl | exact cs1 | exact cs2 | exact cs3) (by first | exact fun _ => trivial | (intro h; simp at h; first | exact ⟨by omega, by omega⟩ | omega)) rfl ?_
              | refine r_idx_cnd tab_ok rfl rfl rfl rfl rfl rfl rfl (by first | exact fun _ => rfl | exact cs1 | exact cs2) rfl rfl (by exact ⟨by omega, by omega⟩) rfl rfl ?_
              | refine r_or rfl rfl rfl rfl rfl rfl rfl rfl ?_))
          try simp only [Int.toNat_natCast]
          try simp only [Int.toNat_natCast]
          refine awp_cond rfl (fun hc => ?_) (fun hc => ?_)
          · have : okA l[i].attrs[j] = false := by
              simp only [Bool.or_eq_true, decide_eq_true_eq] at hc
              rw [okA]
              rcases hc with hc | hc
              · rw [decide_eq_true (show 50 < l[i].attrs[j].name.size by omega)]; rfl
              · rw [decide_eq_true (show 3000 < l[i].attrs[j].value.size by omega)]; simp
            repeat (first
              | refine awp_seq ?_
              | refine thenA_normal ?_
              | refine a_region ?_
              | refine awp_ret ?_
              | refine thenA_ret ?_
              | refine blockA_ret ?_
              | refine r_done ?_
              | (refine r_id ?_; first
                | refine r_ev tab_ok rfl rfl rfl rfl (by first | exact trivial | exact ⟨by omega, by omega⟩ | omega | exact ⟨by omega, by omega, by omega, by omega⟩ | exact Nat.le_of_ble_eq_true rfl) rfl ?_)
              | refine ret1 (by first | exact .inl rfl | exact .inr rfl) rfl rfl rfl ?_)
            exact Sub.of_eq (by rw [hno (by rw [hok, hnoA this])])
          · have : okA l[i].attrs[j] = true := by
              simp only [Bool.or_eq_false_iff, decide_eq_false_iff_not] at hc
              rw [okA, decide_eq_false (by omega), decide_eq_false (by omega)]
              rfl
            repeat (first
              | refine thenA_normal ?_
              | refine a_region ?_
              | refine awp_skip ?_
              | refine r_done ?_
              | (refine r_id ?_; first
                | refine r_ev tab_ok rfl rfl rfl rfl (by first | exact trivial | exact ⟨by omega, by omega⟩ | omega | exact ⟨by omega, by omega, by omega, by omega⟩ | exact Nat.le_of_ble_eq_true rfl) rfl ?_))
            exact ⟨⟨j + 1, by omega, by rw [List.take_add_one, List.getElem?_eq_getElem hjl, List.all_append, hej]; simpa using this⟩, by dsimp only; omega, fits_of rfl (by repeat' first | exact trivial | exact Sub.refl _ | exact rfl | apply And.intro)⟩
        · have : j = l[i].attrs.length := by omega
          subst this
          rw [List.take_length] at hej
          repeat (first
            | refine thenA_normal ?_
            | refine a_region ?_
            | refine awp_exit ?_
            | refine r_done ?_
            | (refine r_id ?_; first
              | refine r_ev tab_ok rfl rfl rfl rfl (by first | exact trivial | exact ⟨by omega, by omega⟩ | omega | exact ⟨by omega, by omega, by omega, by omega⟩ | exact Nat.le_of_ble_eq_true rfl) rfl ?_))
          exact ⟨⟨i + 1, by omega, hstep (by rw [hok, hej])⟩, by dsimp only; omega, fits_of rfl (by repeat' first | exact trivial | exact Sub.refl _ | exact rfl | apply And.intro)⟩
    · have : i = l.length := by omega
      subst this
      rw [List.take_length] at heq
      rw [heq]
      repeat (first
        | refine awp_seq ?_
        | refine thenA_normal ?_
        | refine a_region ?_
        | refine awp_ret ?_
        | refine awp_exit ?_
        | refine r_done ?_
        | (refine r_id ?_; first
          | refine r_ev tab_ok rfl rfl rfl rfl (by first | exact trivial | exact ⟨by omega, by omega⟩ | omega | exact ⟨by omega, by omega, by omega, by omega⟩ | exact Nat.le_of_ble_eq_true rfl) rfl ?_)
        | refine ret1 (by first | exact .inl rfl | exact .inr rfl) rfl rfl rfl ?_)
      exact Sub.refl _
end Go.Proofs.Ytklodolkgdmhoaa

/- law7: what the document fixes. -/
namespace Go.Proofs.Ytklodolkgdmhoaa
open Go Go.RowKit

def rwZ (r : Rw) : D := .ag [.val (.int .i64 r.parent), .val (.string r.tag), .val (.string r.text), .val (.slice none 0 0)]
theorem rwZ_sub {r : Rw} (h : r.attrs = []) : DSub (rwZ r) (rwD r) := by
  rw [rwZ, rwD, h]
  exact DSub.ag ⟨DSub.refl _, DSub.refl _, DSub.refl _, DSub.nil 2, trivial⟩
def st (a : Array UInt8) : ByteArray := ⟨a⟩
def l0 : List Rw := [⟨-1, st #[65], emS, []⟩, ⟨0, st #[98], emS, [⟨st #[67, 108, 97, 115, 115], st #[120, 32, 121]⟩, ⟨clsS, st #[122]⟩]⟩, ⟨0, emS, st #[116], []⟩, ⟨1, st #[99], emS, []⟩]
def gs0 : List Nt := [⟨⟨-1, st #[97], emS, []⟩, [1, 2], 1⟩, ⟨⟨0, st #[98], emS, [⟨clsS, st #[120, 32, 121]⟩]⟩, [3], 2⟩, ⟨⟨0, emS, st #[116], []⟩, [], 2⟩, ⟨⟨1, st #[99], emS, []⟩, [], 3⟩]
theorem new0 : newF l0 = some gs0 := by kernel_rfl
theorem new1 : newF [⟨-1, emS, emS, []⟩] = none := by kernel_rfl
def dA : D := .ag [.val (.int .i64 (-1)), .val (.string (st #[65])), .val (.string emS), .val (.slice none 0 0)]
theorem sm0 : ∀ r ∈ l0, smR r := by
  intro r hr
  simp only [l0, List.mem_cons, List.not_mem_nil, or_false] at hr
  rcases hr with rfl | rfl | rfl | rfl
  all_goals refine ⟨by decide, by decide, ?_⟩
  all_goals intro a ha
  all_goals simp only [List.mem_cons, List.not_mem_nil, or_false] at ha
  rcases ha with rfl | rfl <;> exact ⟨by decide, by decide⟩
def ds0 : List D := [.ag [.val (.int .i64 (-1)), .val (.string (st #[65])), .val (.string emS), .val (.slice none 0 0)], .ag [.val (.int .i64 0), .val (.string (st #[98])), .val (.string emS), .sl 2 [atD ⟨st #[67, 108, 97, 115, 115], st #[120, 32, 121]⟩, atD ⟨clsS, st #[122]⟩]], .ag [.val (.int .i64 0), .val (.string emS), .val (.string (st #[116])), .val (.slice none 0 0)], .ag [.val (.int .i64 1), .val (.string (st #[99])), .val (.string emS), .val (.slice none 0 0)]]
theorem awNew : PCalls Try.prog 10 [.sl 4 ds0] (.tup [trA gs0, .val (.int .i64 0)]) := by
  have h := new_ok l0 (by decide) sm0
  rw [new0] at h
  refine pcalls_sub h ⟨Sub.sl (l' := l0.map rwD) ⟨?_, ?_, ?_, ?_, trivial⟩, trivial⟩
  · exact DSub.ag ⟨DSub.refl _, DSub.refl _, DSub.refl _, DSub.nil 2, trivial⟩
  · exact DSub.refl _
  · exact DSub.ag ⟨DSub.refl _, DSub.refl _, DSub.refl _, DSub.nil 2, trivial⟩
  · exact DSub.ag ⟨DSub.refl _, DSub.refl _, DSub.refl _, DSub.nil 2, trivial⟩
theorem awNew1 : PCalls Try.prog 10 [.sl 4 [.ag [.val (.int .i64 (-1)), .val (.string emS), .val (.string emS), .val (.slice none 0 0)]]] (.tup [.val (.pointer none), .val (.int .i64 4)]) := by
  have h := new_ok [⟨-1, emS, emS, []⟩] (by decide) (fun r hr => by rw [List.mem_singleton.1 hr]; exact ⟨by decide, by decide, fun a ha => by cases ha⟩)
  rw [new1] at h
  exact pcalls_sub h ⟨Sub.sl (l' := [rwD ⟨-1, emS, emS, []⟩]) ⟨DSub.ag ⟨DSub.refl _, DSub.refl _, DSub.refl _, DSub.nil 2, trivial⟩, trivial⟩, trivial⟩
theorem hg0 : gs0.length ≤ 1099511627776 := by decide
theorem hk0 : ∀ n ∈ gs0, n.kids.length ≤ 1099511627776 := by
  intro n hn
  simp only [gs0, List.mem_cons, List.not_mem_nil, or_false] at hn
  rcases hn with rfl | rfl | rfl | rfl <;> decide
theorem ha0 : ∀ n ∈ gs0, n.r.attrs.length ≤ 1099511627776 := by
  intro n hn
  simp only [gs0, List.mem_cons, List.not_mem_nil, or_false] at hn
  rcases hn with rfl | rfl | rfl | rfl <;> decide
theorem attrL_sz {b : Nat} : ∀ {l : List At} (n : ByteArray), (∀ a ∈ l, a.value.size ≤ b) → (attrL l n).1.size ≤ b
  | [], _, _ => Nat.zero_le _
  | a :: r, n, h => by
    rw [attrL]
    split
    · exact h a List.mem_cons_self
    · exact attrL_sz n fun x hx => h x (List.mem_cons_of_mem _ hx)
theorem attrF_sz {gs : List Nt} {b : Nat} (h : ∀ n ∈ gs, ∀ a ∈ n.r.attrs, a.value.size ≤ b) (i : Int) (n : ByteArray) : (attrF gs i n).1.size ≤ b := by
  rw [attrF]
  split
  · rename_i hb
    obtain ⟨h0, h1, h2⟩ := inB_t hb
    rw [← ntAt_get h2]
    exact attrL_sz n (h _ (List.getElem_mem h2))
  · exact Nat.zero_le _
theorem hv0 : ∀ n, (attrF gs0 1 n).1.size ≤ 1099511627776 := fun n => attrF_sz (by
  intro n hn
  simp only [gs0, List.mem_cons, List.not_mem_nil, or_false] at hn
  rcases hn with rfl | rfl | rfl | rfl <;> intro a ha <;> simp only [List.mem_cons, List.not_mem_nil, or_false] at ha
  rw [ha]; decide) 1 n
theorem orderNil_ok : PCalls Try.prog 12 [.val (.pointer none)] (.sl 1 []) := by
  refine p_start Try.func12 Try.ntmps12 rfl rfl rfl fun S w => ?_
  repeat (first
    | refine awp_seq ?_
    | refine a_region ?_
    | refine r_done ?_
    | (refine r_id ?_; first
      | refine r_ev tab_ok rfl rfl rfl rfl (by first | exact trivial | exact ⟨by omega, by omega⟩ | omega | exact ⟨by omega, by omega, by omega, by omega⟩ | exact Nat.le_of_ble_eq_true rfl) rfl ?_))
  refine r_call lenNil_ok call18 rfl rfl ⟨Sub.refl _, trivial⟩ rfl rfl rfl rfl ?_
  repeat (first
    | refine awp_seq ?_
    | refine thenA_normal ?_
    | refine a_region ?_
    | refine awp_ret ?_
    | refine thenA_ret ?_
    | refine r_done ?_
    | (refine r_id ?_; first
      | refine r_ev tab_ok rfl rfl rfl rfl (by first | exact trivial | exact ⟨by omega, by omega⟩ | omega | exact ⟨by omega, by omega, by omega, by omega⟩ | exact Nat.le_of_ble_eq_true rfl) rfl ?_)
    | refine ret1 (by first | exact .inl rfl | exact .inr rfl) rfl rfl rfl ?_
    | refine awp_cond_t rfl ?_)
  exact Sub.nil 1
theorem good0 : Good l0 gs0 := (good_new new0).1
theorem awNode : PCalls Try.prog 15 [trA gs0, .val (.int .i64 0)] (.tup [rwA ⟨-1, st #[97], emS, []⟩, .val (.bool true)]) := node_ok gs0 0 hg0 ha0
theorem awAttr : PCalls Try.prog 14 [trA gs0, .val (.int .i64 1), .val (.string clsS)] (.tup [.val (.string (st #[120, 32, 121])), .val (.bool true)]) := by
  have h := attr_ok gs0 1 clsS hg0 ha0
  rw [show attrF gs0 1 clsS = (st #[120, 32, 121], true) by kernel_rfl] at h
  exact h
theorem awHasY : PCalls Try.prog 16 [trA gs0, .val (.int .i64 1), .val (.string (st #[121]))] (.val (.bool true)) := by
  have h := hascls_ok gs0 1 (st #[121]) hg0 ha0 hv0
  rwa [show hasF gs0 1 (st #[121]) = true by kernel_rfl] at h
theorem awHasZ : PCalls Try.prog 16 [trA gs0, .val (.int .i64 1), .val (.string (st #[122]))] (.val (.bool false)) := by
  have h := hascls_ok gs0 1 (st #[122]) hg0 ha0 hv0
  rwa [show hasF gs0 1 (st #[122]) = false by kernel_rfl] at h
theorem awOrder : PCalls Try.prog 12 [trA gs0] (.sl 1 (([0, 1, 3, 2] : List Nat).map nD)) := by
  have h := order_ok hg0 good0 rfl (by decide)
  rwa [show walkP l0 0 = [0, 1, 3, 2] by kernel_rfl] at h
theorem awKids : PCalls Try.prog 24 [trA gs0, .val (.int .i64 0)] (.sl 1 (([1, 2] : List Nat).map nD)) := kids_ok gs0 0 hg0 hk0
theorem awElems : PCalls Try.prog 26 [trA gs0, .val (.int .i64 0)] (.sl 1 (([1] : List Nat).map nD)) := by
  have h := elem_ok gs0 0 hg0 hk0
  rwa [show elemF gs0 0 = [1] by kernel_rfl] at h
theorem awDepth : PCalls Try.prog 27 [trA gs0, .val (.int .i64 3)] (.val (.int .i64 3)) := by
  have h := depth_ok gs0 3 hg0
  rwa [show depF gs0 3 = 3 by kernel_rfl] at h
theorem awU1 : PCalls Try.prog 13 [trA gs0, .val (.int .i64 3), .val (.int .i64 1)] (.val (.bool true)) := by
  have h := under_ok hg0 good0 rfl 3 1
  rwa [show undN gs0 l0 3 1 = true by kernel_rfl] at h
theorem awU2 : PCalls Try.prog 13 [trA gs0, .val (.int .i64 2), .val (.int .i64 1)] (.val (.bool false)) := by
  have h := under_ok hg0 good0 rfl 2 1
  rwa [show undN gs0 l0 2 1 = false by kernel_rfl] at h
theorem awI4 : PCalls Try.prog 19 [.sl 1 (([0, 1, 3, 2] : List Nat).map nD), .sl 1 (([0, 1, 3, 2] : List Nat).map nD)] (.val (.bool true)) := ints_ok _ _ (by decide) (by decide)
theorem awI2 : PCalls Try.prog 19 [.sl 1 (([1, 2] : List Nat).map nD), .sl 1 (([1, 2] : List Nat).map nD)] (.val (.bool true)) := ints_ok _ _ (by decide) (by decide)
theorem awI1 : PCalls Try.prog 19 [.sl 1 (([1] : List Nat).map nD), .sl 1 (([1] : List Nat).map nD)] (.val (.bool true)) := ints_ok _ _ (by decide) (by decide)
theorem awLen : PCalls Try.prog 18 [trA gs0] (.val (.int .i64 4)) := len_ok gs0 hg0
set_option maxHeartbeats 8000000 in
theorem awake_ok : PCalls Try.prog 8 [] (.val (.bool true)) := by
  refine p_start Try.func8 Try.ntmps8 rfl rfl rfl fun S w => ?_
  repeat (first
    | refine awp_seq ?_
    | refine thenA_normal ?_
    | refine a_region ?_
    | refine awp_ret ?_
    | refine awp_skip ?_
    | refine r_done ?_
    | (refine r_id ?_; first
      | refine r_ev tab_ok rfl rfl rfl rfl (by first | exact trivial | exact ⟨by omega, by omega⟩ | omega | exact ⟨by omega, by omega, by omega, by omega⟩ | exact Nat.le_of_ble_eq_true rfl) rfl ?_
      | refine r_wr tab_ok rfl rfl rfl rfl rfl ?_
      | refine r_st tab_ok rfl rfl rfl rfl ?_
      | refine r_ev_cnd tab_ok rfl rfl rfl rfl rfl rfl (by first | exact fun _ => rfl | exact cs1 | exact cs2 | exact cs3) (by first | exact fun _ => trivial | (intro h; simp at h; first | exact ⟨by omega, by omega⟩ | omega)) rfl ?_
      | refine r_ld_cnd tab_ok rfl rfl rfl rfl rfl rfl (by first | exact fun _ => rfl | exact cs1 | exact cs2 | exact cs3) rfl ?_
      | refine r_or rfl rfl rfl rfl rfl rfl rfl rfl ?_
      | refine r_and rfl rfl rfl rfl rfl rfl rfl rfl ?_
      | refine r_build tab_ok rfl rfl rfl rfl rfl rfl ?_
      | refine r_built_cnd tab_ok rfl rfl rfl rfl rfl rfl rfl rfl (by first | exact fun _ => rfl | exact cs1) rfl rfl rfl ?_
      | refine r_built tab_ok rfl rfl rfl rfl rfl rfl rfl rfl rfl ?_)
    | refine ret1 (by first | exact .inl rfl | exact .inr rfl) rfl rfl rfl ?_
    | refine awp_cond_f rfl ?_
    | refine r_call awNew call10 rfl rfl ⟨Sub.refl _, trivial⟩ rfl rfl rfl rfl ?_
    | refine r_call awNew1 call10 rfl rfl ⟨Sub.refl _, trivial⟩ rfl rfl rfl rfl ?_
    | refine r_call_cnd (fun _ => awLen) call18 rfl rfl rfl rfl (by first | exact fun _ => rfl | exact cs1 | exact cs2 | exact cs3) ⟨Sub.refl _, trivial⟩ rfl rfl rfl rfl ?_
    | refine r_call_cnd (fun _ => lenNil_ok) call18 rfl rfl rfl rfl (by first | exact fun _ => rfl | exact cs1 | exact cs2 | exact cs3) ⟨Sub.refl _, trivial⟩ rfl rfl rfl rfl ?_
    | refine r_call awNode call15 rfl rfl ⟨Sub.refl _, Sub.refl _, trivial⟩ rfl rfl rfl rfl ?_
    | refine r_call awAttr call14 rfl rfl ⟨Sub.refl _, Sub.refl _, Sub.refl _, trivial⟩ rfl rfl rfl rfl ?_
    | refine r_call_cnd (fun _ => awHasY) call16 rfl rfl rfl rfl (by first | exact fun _ => rfl | exact cs1 | exact cs2 | exact cs3) ⟨Sub.refl _, Sub.refl _, Sub.refl _, trivial⟩ rfl rfl rfl rfl ?_
    | refine r_call_cnd (fun _ => awHasZ) call16 rfl rfl rfl rfl (by first | exact fun _ => rfl | exact cs1 | exact cs2 | exact cs3) ⟨Sub.refl _, Sub.refl _, Sub.refl _, trivial⟩ rfl rfl rfl rfl ?_
    | refine r_call_cnd (fun _ => awOrder) call12 rfl rfl rfl rfl (by first | exact fun _ => rfl | exact cs1 | exact cs2 | exact cs3) ⟨Sub.refl _, trivial⟩ rfl rfl rfl rfl ?_
    | refine r_call_cnd (fun _ => orderNil_ok) call12 rfl rfl rfl rfl (by first | exact fun _ => rfl | exact cs1 | exact cs2 | exact cs3) ⟨Sub.refl _, trivial⟩ rfl rfl rfl rfl ?_
    | refine r_call_cnd (fun _ => awKids) call24 rfl rfl rfl rfl (by first | exact fun _ => rfl | exact cs1 | exact cs2 | exact cs3) ⟨Sub.refl _, Sub.refl _, trivial⟩ rfl rfl rfl rfl ?_
    | refine r_call_cnd (fun _ => awElems) call26 rfl rfl rfl rfl (by first | exact fun _ => rfl | exact cs1 | exact cs2 | exact cs3) ⟨Sub.refl _, Sub.refl _, trivial⟩ rfl rfl rfl rfl ?_
    | refine r_call_cnd (fun _ => awDepth) call27 rfl rfl rfl rfl (by first | exact fun _ => rfl | exact cs1 | exact cs2 | exact cs3) ⟨Sub.refl _, Sub.refl _, trivial⟩ rfl rfl rfl rfl ?_
    | refine r_call_cnd (fun _ => awU1) call13 rfl rfl rfl rfl (by first | exact fun _ => rfl | exact cs1 | exact cs2 | exact cs3) ⟨Sub.refl _, Sub.refl _, Sub.refl _, trivial⟩ rfl rfl rfl rfl ?_
    | refine r_call_cnd (fun _ => awU2) call13 rfl rfl rfl rfl (by first | exact fun _ => rfl | exact cs1 | exact cs2 | exact cs3) ⟨Sub.refl _, Sub.refl _, Sub.refl _, trivial⟩ rfl rfl rfl rfl ?_
    | refine r_call_cnd (fun _ => awI4) call19 rfl rfl rfl rfl (by first | exact fun _ => rfl | exact cs1 | exact cs2 | exact cs3) ⟨Sub.refl _, Sub.refl _, trivial⟩ rfl rfl rfl rfl ?_
    | refine r_call_cnd (fun _ => awI2) call19 rfl rfl rfl rfl (by first | exact fun _ => rfl | exact cs1 | exact cs2 | exact cs3) ⟨Sub.refl _, Sub.refl _, trivial⟩ rfl rfl rfl rfl ?_
    | refine r_call_cnd (fun _ => awI1) call19 rfl rfl rfl rfl (by first | exact fun _ => rfl | exact cs1 | exact cs2 | exact cs3) ⟨Sub.refl _, Sub.refl _, trivial⟩ rfl rfl rfl rfl ?_
    | refine r_by_cnd (fun _ => astep_eqnil_d underT rfl rfl rfl) rfl rfl rfl (by first | exact fun _ => rfl | exact cs1 | exact cs2 | exact cs3) rfl rfl rfl rfl ?_)
  exact Sub.of_eq (by kernel_rfl)
end Go.Proofs.Ytklodolkgdmhoaa
