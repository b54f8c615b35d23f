/- Signs put and read again: plain law. -/
import Derived.Test.YtpnjkdmcalcleaaA7
namespace Go.Proofs.Ytpnjkdmcalcleaa
open Go Go.RowKit

theorem valid_iff {r : Int} : Utf8.valid r = true ↔ (0 ≤ r ∧ r < 55296) ∨ (57344 ≤ r ∧ r ≤ 1114111) := by
  simp [Utf8.valid]
theorem dec_valid (s : ByteArray) (i : Nat) : Utf8.valid ((Utf8.decode s i).1 : Int) = true := by
  have hb : ∀ k, (s.get! (i + k)).toNat < 256 := fun k => (s.get! (i + k)).toNat_lt
  have h0 := hb 0; have h1 := hb 1; have h2 := hb 2; have h3 := hb 3
  simp only [Utf8.decode]
  split
  · exact valid_iff.2 (by omega)
  · split
    · split
      · exact valid_iff.2 (by omega)
      · decide
    · split
      · split
        · rename_i h; simp only [Bool.and_eq_true] at h; exact h.2
        · decide
      · split
        · split
          · rename_i h; simp only [Bool.and_eq_true] at h; exact h.2
          · decide
        · decide

def encB (r : Int) : List UInt8 := (Utf8.encode r).data.toList
theorem get_list (l : List UInt8) (j : Nat) : (⟨l.toArray⟩ : ByteArray).get! j = l[j]! := by
  simp [ByteArray.get!]
theorem get_mid {A B : List UInt8} {r : List UInt8} {k : Nat} {b : UInt8} (h : r[k]? = some b) : (⟨(A ++ r ++ B).toArray⟩ : ByteArray).get! (A.length + k) = b := by
  rw [get_list]
  have hk : k < r.length := (List.getElem?_eq_some_iff.1 h).1
  have : (A ++ r ++ B)[A.length + k]? = some b := by
    rw [List.append_assoc, List.getElem?_append_right (by omega), Nat.add_sub_cancel_left, List.getElem?_append_left hk, h]
  rw [List.getElem!_eq_getElem?_getD, this]
  rfl
theorem dec_enc (A B : List UInt8) {r : Int} (hv : Utf8.valid r = true) : Utf8.decode ⟨(A ++ encB r ++ B).toArray⟩ A.length = (r.toNat, (encB r).length) := by
  have hr := valid_iff.1 hv
  have hsz : (⟨(A ++ encB r ++ B).toArray⟩ : ByteArray).size = A.length + (encB r).length + B.length := by rw [← str_size]; simp; omega
  have hg : ∀ k b, (encB r)[k]? = some b → (⟨(A ++ encB r ++ B).toArray⟩ : ByteArray).get! (A.length + k) = b := fun k b h => get_mid h
  generalize (⟨(A ++ encB r ++ B).toArray⟩ : ByteArray) = s at hsz hg
  have hen : encB r = if r.toNat < 0x80 then [UInt8.ofNat r.toNat] else if r.toNat < 0x800 then [UInt8.ofNat (0xC0 + r.toNat / 64), UInt8.ofNat (0x80 + r.toNat % 64)]
      else if r.toNat < 0x10000 then [UInt8.ofNat (0xE0 + r.toNat / 4096), UInt8.ofNat (0x80 + r.toNat / 64 % 64), UInt8.ofNat (0x80 + r.toNat % 64)]
      else [UInt8.ofNat (0xF0 + r.toNat / 262144), UInt8.ofNat (0x80 + r.toNat / 4096 % 64), UInt8.ofNat (0x80 + r.toNat / 64 % 64), UInt8.ofNat (0x80 + r.toNat % 64)] := by
    unfold encB Utf8.encode
    simp only [hv, if_true]
    split
    · rfl
    · split
      · rfl
      · split <;> rfl
  generalize hc : r.toNat = c at hen ⊢
  rw [hen] at hg hsz ⊢
  have hN : ∀ n, n < 256 → (UInt8.ofNat n).toNat = n := fun n h => by simp; omega
  split at hg
  · rename_i h
    have g0 := hg 0 _ rfl
    simp only [Utf8.decode, g0, hN c (by omega), h, if_true]
    simp [h]
  · rename_i h
    rw [if_neg h] at hsz ⊢
    split at hg
    · rename_i h2
      rw [if_pos h2] at hsz ⊢
      have g0 := hg 0 _ rfl
      have g1 := hg 1 _ rfl
      simp only [List.length_cons, List.length_nil] at hsz
      simp only [Utf8.decode, g0, g1, hN (192 + c / 64) (by omega), hN (128 + c % 64) (by omega)]
      rw [if_neg (by omega), if_pos (by simp; omega), if_pos (by omega)]
      simp; omega
    · rename_i h2
      rw [if_neg h2] at hsz ⊢
      split at hg
      · rename_i h3
        rw [if_pos h3] at hsz ⊢
        have g0 := hg 0 _ rfl
        have g1 := hg 1 _ rfl
        have g2 := hg 2 _ rfl
        simp only [List.length_cons, List.length_nil] at hsz
        have e : (224 + c / 4096) % 16 * 4096 + (128 + c / 64 % 64) % 64 * 64 + (128 + c % 64) % 64 = c := by omega
        simp only [Utf8.decode, g0, g1, g2, hN (224 + c / 4096) (by omega), hN (128 + c / 64 % 64) (by omega), hN (128 + c % 64) (by omega), e]
        rw [if_neg (by omega), if_neg (by simp; omega), if_pos (by simp; omega), if_pos (by simp [valid_iff]; omega)]
        simp
      · rename_i h3
        rw [if_neg h3] at hsz ⊢
        have g0 := hg 0 _ rfl
        have g1 := hg 1 _ rfl
        have g2 := hg 2 _ rfl
        have g3 := hg 3 _ rfl
        simp only [List.length_cons, List.length_nil] at hsz
        have e : (240 + c / 262144) % 8 * 262144 + (128 + c / 4096 % 64) % 64 * 4096 + (128 + c / 64 % 64) % 64 * 64 + (128 + c % 64) % 64 = c := by omega
        simp only [Utf8.decode, g0, g1, g2, g3, hN (240 + c / 262144) (by omega), hN (128 + c / 4096 % 64) (by omega), hN (128 + c / 64 % 64) (by omega), hN (128 + c % 64) (by omega), e]
        rw [if_neg (by omega), if_neg (by simp; omega), if_neg (by simp; omega), if_pos (by simp; omega), if_pos (by simp [valid_iff]; omega)]
        simp
theorem encB_pos (r : Int) : 1 ≤ (encB r).length := by
  unfold encB Utf8.encode
  simp only
  repeat' split
  all_goals simp
theorem encB_le (r : Int) : (encB r).length ≤ 4 := by
  have := encode_size_le r
  rw [encB, str_size]
  exact this

def encL (l : List Int) : List UInt8 := l.flatMap encB
theorem encL_append (a b : List Int) : encL (a ++ b) = encL a ++ encL b := by simp [encL]
theorem encL_le : ∀ l : List Int, (encL l).length ≤ 4 * l.length
  | [] => by simp [encL]
  | r :: l => by
    have h1 := encL_le l
    have h2 := encB_le r
    have : encL (r :: l) = encB r ++ encL l := by simp [encL]
    rw [this, List.length_append, List.length_cons]
    omega
/-- Signs that none turns. -/
def plainR (r : Int) : Prop := Utf8.valid r = true ∧ r ≠ 13 ∧ r ≠ 12 ∧ r ≠ 0
theorem reread {L : List Int} (hL : ∀ r ∈ L, plainR r) : ∀ (n : Nat) (A B : List Int), A ++ B = L → B.length = n → A ≠ [] → rdAt ⟨(encL L).toArray⟩ (encL A).length false = B
  | 0, A, B, h, hn, _ => by
    have : B = [] := List.eq_nil_of_length_eq_zero hn
    subst this
    rw [List.append_nil] at h
    subst h
    exact rdAt_end (by rw [← str_size]; simp)
  | n + 1, A, r :: B, h, hn, hA => by
    have hr : plainR r := hL r (by rw [← h]; simp)
    have e : encL L = encL A ++ encB r ++ encL B := by rw [← h, encL_append]; simp [encL]
    have hd := dec_enc (encL A) (encL B) hr.1
    rw [← e] at hd
    have hp := encB_pos r
    have hlt : (encL A).length < (⟨(encL L).toArray⟩ : ByteArray).size := by rw [← str_size]; simp [e]; omega
    have h0 : (encL A).length ≠ 0 := by
      cases A with
      | nil => exact absurd rfl hA
      | cons a A =>
        have := encB_pos a
        have e2 : encL (a :: A) = encB a ++ encL A := by simp [encL]
        rw [e2, List.length_append]; omega
    have ht : ((r.toNat : Nat) : Int) = r := by have := valid_iff.1 hr.1; omega
    have e3 : (encL A).length + (encB r).length = (encL (A ++ [r])).length := by rw [encL_append]; simp [encL]
    rw [rdAt_step hlt, hd]
    simp only [ht, e3]
    rw [if_neg (by rintro (h | h); exact h0 h.1; cases h.2), if_neg (by have := hr.2; omega), if_neg hr.2.2.2]
    have h13 : decide (r = 13) = false := by have := hr.2.1; simp [this]
    rw [h13, reread hL n (A ++ [r]) B (by rw [List.append_assoc]; exact h) (by simpa using hn) (by simp)]
    rfl
theorem reread0 {L : List Int} (hL : ∀ r ∈ L, plainR r) : readL ⟨(encL L).toArray⟩ = if L[0]? = some 65279 then L.drop 1 else L := by
  cases L with
  | nil => exact rdAt_end (by decide)
  | cons r B =>
    have hr : plainR r := hL r (by simp)
    have e : encL (r :: B) = [] ++ encB r ++ encL B := by simp [encL]
    have hd := dec_enc [] (encL B) hr.1
    rw [← e] at hd
    have hp := encB_pos r
    have hlt : 0 < (⟨(encL (r :: B)).toArray⟩ : ByteArray).size := by rw [← str_size]; simp [e]; omega
    have ht : ((r.toNat : Nat) : Int) = r := by have := valid_iff.1 hr.1; omega
    have e3 : 0 + (encB r).length = (encL [r]).length := by simp [encL]
    have hd' : Utf8.decode ⟨(encL (r :: B)).toArray⟩ 0 = (r.toNat, (encB r).length) := hd
    unfold readL
    rw [rdAt_step hlt, hd']
    simp only [ht, e3]
    have h13 : decide (r = 13) = false := by have := hr.2.1; simp [this]
    rw [h13, reread hL B.length [r] B rfl rfl (by simp)]
    by_cases h : r = 65279
    · subst h; simp
    · rw [if_neg (by rintro (h' | h'); exact h h'.2; cases h'.2), if_neg (by have := hr.2; omega), if_neg hr.2.2.2, if_neg (by simpa using h)]
      rfl
theorem rd_plain (s : ByteArray) : ∀ (f pos : Nat) (cr : Bool), ∀ r ∈ rd s f pos cr, plainR r
  | 0, _, _, r, h => by cases h
  | f + 1, pos, cr, r, h => by
    rw [rd] at h
    split at h
    · rw [List.mem_append] at h
      rcases h with h | h
      · split at h
        · cases h
        · rw [List.mem_singleton] at h
          subst h
          have hv := dec_valid s pos
          split
          · exact ⟨by decide, by decide, by decide, by decide⟩
          · split
            · exact ⟨by decide, by decide, by decide, by decide⟩
            · exact ⟨hv, by omega, by omega, by omega⟩
      · exact rd_plain s f _ _ r h
    · cases h
theorem readL_plain (s : ByteArray) : ∀ r ∈ readL s, plainR r := rd_plain s _ _ _
end Go.Proofs.Ytpnjkdmcalcleaa
