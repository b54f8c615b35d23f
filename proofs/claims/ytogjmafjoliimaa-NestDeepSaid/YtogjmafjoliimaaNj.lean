/- NestDeep: the nodes of blocks within blocks, in plain words. -/
import Derived.Test.YtogjmafjoliimaaNi
namespace Go.Proofs.Ytogjmafjoliimaa
open Go Go.RowKit

def obB (q : Nat) : List UInt8 := if q = 0 then [40] else if q = 1 then [91] else if q = 2 then [123] else [102, 40]
def cbB (q : Nat) : UInt8 := if q = 0 then 41 else if q = 1 then 93 else if q = 2 then 125 else 41
def obT (q : Nat) : Tk := if q = 0 then tkK 19 ⟨#[40]⟩ else if q = 1 then tkK 19 ⟨#[91]⟩ else if q = 2 then tkK 19 ⟨#[123]⟩ else tkK 2 ⟨#[102]⟩
def cbT (q : Nat) : Tk := tkK 20 ⟨#[cbB q]⟩
theorem four {q : Nat} (h : q < 4) : q = 0 ∨ q = 1 ∨ q = 2 ∨ q = 3 := by omega
theorem tkT_open {q : Nat} (h : q < 4) (A B : List Int) : tkT A ((obB q).map chI ++ B) = obT q :: tkT (A ++ (obB q).map chI) B := by
  rcases four h with rfl | rfl | rfl | rfl
  · exact tkT_sym A B 40 _ (by decide) (by decide) (by decide) rfl
  · exact tkT_sym A B 91 _ (by decide) (by decide) (by decide) rfl
  · exact tkT_sym A B 123 _ (by decide) (by decide) (by decide) rfl
  · exact tkT_func A B
theorem tkT_close {q : Nat} (h : q < 4) (A B : List Int) : tkT A (chI (cbB q) :: B) = cbT q :: tkT (A ++ [chI (cbB q)]) B := by
  rcases four h with rfl | rfl | rfl | rfl
  · exact tkT_sym A B 41 _ (by decide) (by decide) (by decide) rfl
  · exact tkT_sym A B 93 _ (by decide) (by decide) (by decide) rfl
  · exact tkT_sym A B 125 _ (by decide) (by decide) (by decide) rfl
  · exact tkT_sym A B 41 _ (by decide) (by decide) (by decide) rfl
theorem tkT_opens {q : Nat} (h : q < 4) (B : List Int) : ∀ (n : Nat) (A : List Int), tkT A ((List.replicate n ((obB q).map chI)).flatten ++ B) = List.replicate n (obT q) ++ tkT (A ++ (List.replicate n ((obB q).map chI)).flatten) B
  | 0, A => by simp
  | n + 1, A => by
    rw [List.replicate_succ, List.flatten_cons, List.append_assoc, tkT_open h, tkT_opens h B n, List.replicate_succ, List.cons_append, List.append_assoc]
theorem tkT_closes {q : Nat} (h : q < 4) (B : List Int) : ∀ (n : Nat) (A : List Int), tkT A (List.replicate n (chI (cbB q)) ++ B) = List.replicate n (cbT q) ++ tkT (A ++ List.replicate n (chI (cbB q))) B
  | 0, A => by simp
  | n + 1, A => by
    rw [List.replicate_succ, List.cons_append, tkT_close h, tkT_closes h B n, List.replicate_succ, List.cons_append, List.append_assoc, List.singleton_append]
theorem encode_ascii (b : UInt8) (h : b.toNat < 128) : Utf8.encode (chI b) = ⟨#[b]⟩ := by
  have key : ∀ n : Fin 128, Utf8.encode ((n.val : Nat) : Int) = ⟨#[UInt8.ofNat n.val]⟩ := by decide +kernel
  have := key ⟨b.toNat, h⟩
  rw [chI, this]
  simp
theorem runes_ascii : ∀ l : List UInt8, (∀ b ∈ l, b.toNat < 128) → runesBytes (l.map chI) = ⟨l.toArray⟩
  | [], _ => rfl
  | b :: l, h => by
    have e : (b :: l).map chI = [chI b] ++ l.map chI := rfl
    rw [e, runes_append, runes_ascii l fun c hc => h c (List.mem_cons_of_mem _ hc)]
    have e1 : runesBytes [chI b] = ⟨#[b]⟩ := by
      rw [runesBytes, List.foldl_cons, List.foldl_nil, encode_ascii b (h b List.mem_cons_self)]
      rfl
    rw [e1]
    apply ByteArray.ext
    simp
def deepS (q n : Nat) (inner : List UInt8) : List UInt8 := (List.replicate n (obB q)).flatten ++ (120 :: inner) ++ List.replicate n (cbB q) ++ [32, 121]
def lfT (inner : List UInt8) : Tk := tkK 1 ⟨(120 :: inner).toArray⟩
def deepT (q n : Nat) (inner : List UInt8) : List Tk := List.replicate n (obT q) ++ lfT inner :: (List.replicate n (cbT q) ++ [tkK 13 ⟨#[]⟩, tkK 1 ⟨#[121]⟩])
theorem ob_ascii {q : Nat} (h : q < 4) : ∀ b ∈ obB q, 14 ≤ b.toNat ∧ b.toNat < 128 := by
  rcases four h with rfl | rfl | rfl | rfl <;> decide
theorem cb_ascii {q : Nat} (h : q < 4) : 14 ≤ (cbB q).toNat ∧ (cbB q).toNat < 128 := by
  rcases four h with rfl | rfl | rfl | rfl <;> decide
theorem deep_toks {q n : Nat} (hq : q < 4) {inner : List UInt8} (hi : ∀ b ∈ inner, 97 ≤ b.toNat ∧ b.toNat ≤ 122) : toks ⟨(deepS q n inner).toArray⟩ = deepT q n inner := by
  have hlow : ∀ y ∈ (120 : Int) :: inner.map chI, lowI y := by
    intro y hy
    rcases List.mem_cons.1 hy with rfl | hy
    · unfold lowI; omega
    · obtain ⟨b, hb, rfl⟩ := List.mem_map.1 hy
      have := hi b hb
      unfold lowI chI
      omega
  rw [toks, readL_ascii]
  · have e : (deepS q n inner).map chI = (List.replicate n ((obB q).map chI)).flatten ++ (120 :: (inner.map chI ++ (List.replicate n (chI (cbB q)) ++ [32, 121]))) := by
      rw [deepS]
      simp only [List.map_append, List.map_cons, List.map_flatten, List.map_replicate, List.append_assoc, List.cons_append]
      rfl
    have h0 : toksF ((deepS q n inner).map chI) = tkT [] ((deepS q n inner).map chI) := rfl
    rw [h0, e, tkT_opens hq, List.nil_append, deepT]
    congr 1
    generalize (List.replicate n ((obB q).map chI)).flatten = A
    have hend : ∃ y C, List.replicate n (chI (cbB q)) ++ [32, 121] = y :: C ∧ nameF y = false ∧ y ≠ 92 ∧ y ≠ 40 := by
      cases n with
      | zero => exact ⟨32, [121], rfl, by decide, by decide, by decide⟩
      | succ n =>
        refine ⟨chI (cbB q), List.replicate n (chI (cbB q)) ++ [32, 121], rfl, ?_⟩
        rcases four hq with rfl | rfl | rfl | rfl <;> decide
    obtain ⟨y, C, hy, hn, h92, h40⟩ := hend
    have hsg : sg (A ++ 120 :: (inner.map chI ++ (List.replicate n (chI (cbB q)) ++ [32, 121]))) ((A.length + 1 + (inner.map chI).length : Nat)) = y := by
      have h1 := sg_mid (A ++ 120 :: inner.map chI) y C
      have h2 : (A ++ 120 :: inner.map chI).length = A.length + 1 + (inner.map chI).length := by rw [List.length_append, List.length_cons]; omega
      rw [h2] at h1
      rw [hy]
      have h3 : A ++ 120 :: (inner.map chI ++ y :: C) = (A ++ 120 :: inner.map chI) ++ y :: C := by simp
      rw [h3]
      exact h1
    rw [tkT_ident A (inner.map chI) _ 120 hlow (by rw [hsg]; exact hn) (by rw [hsg]; exact h92) (by rw [hsg]; exact h40)]
    have hr : runesBytes (120 :: inner.map chI) = ⟨(120 :: inner).toArray⟩ := by
      have := runes_ascii (120 :: inner) (fun b hb => by
        rcases List.mem_cons.1 hb with rfl | hb
        · decide
        · have := hi b hb; omega)
      exact this
    rw [hr, lfT]
    congr 1
    rw [tkT_closes hq]
    congr 1
    generalize (A ++ 120 :: inner.map chI) ++ List.replicate n (chI (cbB q)) = A2
    rw [tkT_white A2 [] 121 (by decide)]
    congr 1
    have h4 : sg (A2 ++ [32] ++ 121 :: ([] ++ [])) (((A2 ++ [32]).length + 1 + ([] : List Int).length : Nat)) = -1 := sg_end (by simp)
    have h5 := tkT_ident (A2 ++ [32]) [] [] 121 (fun y hy => by rw [List.mem_singleton.1 hy]; unfold lowI; omega) (by rw [h4]; decide) (by rw [h4]; decide) (by rw [h4]; decide)
    have h6 : tkT (A2 ++ [32]) [121] = tkT (A2 ++ [32]) (121 :: ([] ++ [])) := rfl
    rw [h6, h5, tkT_nil]
    rfl
  · intro b hb
    rw [deepS] at hb
    simp only [List.mem_append, List.mem_flatten, List.mem_replicate, List.mem_cons, List.not_mem_nil, or_false] at hb
    rcases hb with ((⟨l, ⟨_, rfl⟩, hb⟩ | rfl | hb) | ⟨_, rfl⟩) | rfl | rfl
    · exact ob_ascii hq b hb
    · decide
    · have := hi b hb; omega
    · exact cb_ascii hq
    · decide
    · decide
/-- Blocks of one kind within each other, around a node. -/
def nestQ (t : Tk) (b : Nd) : Nat → Nd
  | 0 => b
  | k + 1 => .mk t [nestQ t b k]
section
variable {t c : Tk} (ht : opB t = true) (hc : opB c = false) (hcl : clB c ⟨t, [], clF t⟩ = true)
include ht in
theorem one_push : ∀ (n : Nat) (X : List Tk) (st : List Fr) (a : Nat), oneS (List.replicate n t ++ X) st a = oneS X (List.replicate n ⟨t, [], clF t⟩ ++ st) (a + n)
  | 0, X, st, a => rfl
  | n + 1, X, st, a => by
    rw [List.replicate_succ, List.cons_append, oneS_open ht, one_push n, List.replicate_succ']
    have : a + 1 + n = a + (n + 1) := by omega
    rw [this]
    simp
include hc hcl in
theorem one_closeB (b : Nd) (ts : List Tk) : ∀ (r j a : Nat), r ≤ 30 → oneS (List.replicate (r + 1) c ++ ts) (⟨t, [nestQ t b j], clF t⟩ :: List.replicate r ⟨t, [], clF t⟩) a = (nestQ t b (j + 1 + r), a + r + 1)
  | 0, j, a, _ => by
    rw [List.replicate_succ, List.cons_append, List.replicate_zero, List.replicate_zero, oneS_cl1 hc (show clB c ⟨t, [nestQ t b j], clF t⟩ = true from hcl)]
    rfl
  | r + 1, j, a, h => by
    rw [List.replicate_succ (n := r + 1), List.cons_append, List.replicate_succ (n := r) (a := (⟨t, [], clF t⟩ : Fr)), oneS_cl2 hc (show clB c ⟨t, [nestQ t b j], clF t⟩ = true from hcl), putT, if_pos (by rw [List.length_replicate]; omega)]
    have := one_closeB b ts r (j + 1) (a + 1) (by omega)
    have e1 : j + 1 + 1 + r = j + 1 + (r + 1) := by omega
    have e2 : a + 1 + r + 1 = a + (r + 1) + 1 := by omega
    rw [e1, e2] at this
    exact this
include hc hcl in
theorem one_closeA (X : List Tk) : ∀ (m a : Nat), oneS (List.replicate m c ++ X) (List.replicate (m + 32) ⟨t, [], clF t⟩) a = oneS X (List.replicate 32 ⟨t, [], clF t⟩) (a + m)
  | 0, a => by rw [List.replicate_zero, List.nil_append, Nat.zero_add, Nat.add_zero]
  | m + 1, a => by
    have e : (List.replicate (m + 1 + 32) ⟨t, [], clF t⟩ : List Fr) = ⟨t, [], clF t⟩ :: ⟨t, [], clF t⟩ :: List.replicate (m + 31) ⟨t, [], clF t⟩ := by
      rw [show m + 1 + 32 = (m + 31) + 1 + 1 by omega, List.replicate_succ, List.replicate_succ]
    rw [e, List.replicate_succ, List.cons_append, oneS_cl2 hc hcl, putT, if_neg (by rw [List.length_replicate]; omega)]
    have := one_closeA X m (a + 1)
    rw [show m + 32 = (m + 31) + 1 by omega, List.replicate_succ] at this
    rw [this]
    congr 1
    omega
include ht hc hcl in
theorem one_deep {lf : Tk} (hl : opB lf = false) (hlc : clB lf ⟨t, [], clF t⟩ = false) (ts : List Tk) (n a : Nat) :
    oneS (List.replicate n t ++ lf :: (List.replicate n c ++ ts)) [] a = (nestQ t (if n < 32 then .mk lf [] else .mk t []) (min n 31), a + 2 * n + 1) := by
  rw [one_push ht, List.append_nil]
  by_cases h32 : n < 32
  · rw [if_pos h32, Nat.min_eq_left (by omega)]
    cases n with
    | zero => rw [List.replicate_zero, List.replicate_zero, oneS_leaf hl]; rfl
    | succ r =>
      rw [List.replicate_succ (a := (⟨t, [], clF t⟩ : Fr)), oneS_in hl hlc, putT, if_pos (by rw [List.length_replicate]; omega)]
      have := one_closeB (t := t) hc hcl (.mk lf []) ts r 0 (a + (r + 1) + 1) (by omega)
      rw [show 0 + 1 + r = r + 1 by omega, show a + (r + 1) + 1 + r + 1 = a + 2 * (r + 1) + 1 by omega] at this
      exact this
  · rw [if_neg h32, Nat.min_eq_right (by omega)]
    obtain ⟨m, rfl⟩ : ∃ m, n = m + 32 := ⟨n - 32, by omega⟩
    have e : (List.replicate (m + 32) ⟨t, [], clF t⟩ : List Fr) = ⟨t, [], clF t⟩ :: List.replicate (m + 31) ⟨t, [], clF t⟩ := by
      rw [show m + 32 = (m + 31) + 1 by omega, List.replicate_succ]
    rw [e, oneS_in hl hlc, putT, if_neg (by rw [List.length_replicate]; omega), ← e]
    have e2 : List.replicate (m + 32) c ++ ts = List.replicate m c ++ (List.replicate 32 c ++ ts) := by rw [← List.append_assoc, List.replicate_append_replicate]
    rw [e2, one_closeA hc hcl, List.replicate_succ (n := 31) (a := c), List.cons_append, List.replicate_succ (n := 31) (a := (⟨t, [], clF t⟩ : Fr)), List.replicate_succ (n := 30) (a := (⟨t, [], clF t⟩ : Fr)), oneS_cl2 hc hcl, putT, if_pos (by rw [List.length_replicate]; omega)]
    have := one_closeB (t := t) hc hcl (.mk t []) ts 30 0 (a + (m + 32) + 1 + m + 1) (by omega)
    rw [show 0 + 1 + 30 = 31 by omega, show a + (m + 32) + 1 + m + 1 + 30 + 1 = a + 2 * (m + 32) + 1 by omega] at this
    exact this
end
def deepB (q n : Nat) (inner : List UInt8) : Nd := if n < 32 then .mk (lfT inner) [] else .mk (obT q) []
def deepL (q n : Nat) (inner : List UInt8) : List Nd := [nestQ (obT q) (deepB q n inner) (min n 31), .mk (tkK 13 ⟨#[]⟩) [], .mk (tkK 1 ⟨#[121]⟩) []]
theorem deep_all {q n : Nat} (hq : q < 4) (inner : List UInt8) : allA (deepT q n inner) 0 = deepL q n inner := by
  have ht : opB (obT q) = true := by rcases four hq with rfl | rfl | rfl | rfl <;> decide
  have hc : opB (cbT q) = false := opB_close
  have hcl : clB (cbT q) ⟨obT q, [], clF (obT q)⟩ = true := by rcases four hq with rfl | rfl | rfl | rfl <;> decide
  have hl : opB (lfT inner) = false := opB_no (by show (1 : Int) ≠ 2; decide) (by show (1 : Int) ≠ 19; decide)
  have hlc : clB (lfT inner) ⟨obT q, [], clF (obT q)⟩ = false := by
    rw [clB, decide_eq_false (by show ¬ (1 : Int) = 20; decide)]
    rfl
  have hlen : (deepT q n inner).length = 2 * n + 3 := by
    rw [deepT]
    simp only [List.length_append, List.length_replicate, List.length_cons, List.length_nil]
    omega
  have h1 := one_deep ht hc hcl hl hlc [tkK 13 ⟨#[]⟩, tkK 1 ⟨#[121]⟩] n 0
  have h1' : oneS ((deepT q n inner).drop 0) [] 0 = (nestQ (obT q) (deepB q n inner) (min n 31), 2 * n + 1) := by
    rw [List.drop_zero]
    rw [show 0 + 2 * n + 1 = 2 * n + 1 by omega] at h1
    exact h1
  have hd1 : (deepT q n inner).drop (2 * n + 1) = [tkK 13 ⟨#[]⟩, tkK 1 ⟨#[121]⟩] := by
    have e : deepT q n inner = (List.replicate n (obT q) ++ lfT inner :: List.replicate n (cbT q)) ++ [tkK 13 ⟨#[]⟩, tkK 1 ⟨#[121]⟩] := by rw [deepT]; simp
    have e2 : (List.replicate n (obT q) ++ lfT inner :: List.replicate n (cbT q)).length = 2 * n + 1 := by
      simp only [List.length_append, List.length_replicate, List.length_cons]
      omega
    rw [e, ← e2, List.drop_left]
  have h2 : oneS ((deepT q n inner).drop (2 * n + 1)) [] (2 * n + 1) = (.mk (tkK 13 ⟨#[]⟩) [], 2 * n + 2) := by
    rw [hd1, oneS_leaf (opB_no (by decide) (by decide))]
  have hd2 : (deepT q n inner).drop (2 * n + 2) = [tkK 1 ⟨#[121]⟩] := by
    rw [show 2 * n + 2 = 2 * n + 1 + 1 by omega, ← List.drop_drop, hd1]
    rfl
  have h3 : oneS ((deepT q n inner).drop (2 * n + 2)) [] (2 * n + 2) = (.mk (tkK 1 ⟨#[121]⟩) [], 2 * n + 3) := by
    rw [hd2, oneS_leaf (opB_no (by decide) (by decide))]
  rw [allA_lt (by omega), h1']
  dsimp only
  rw [allA_lt (by omega), h2]
  dsimp only
  rw [allA_lt (by omega), h3]
  dsimp only
  rw [allA_ge (by omega)]
  rfl
theorem nestQ_deep (t : Tk) (b : Nd) : ∀ k, deepN (nestQ t b k) = k + deepN b
  | 0 => by rw [nestQ, Nat.zero_add]
  | k + 1 => by
    have := nestQ_deep t b k
    rw [nestQ, deepN, deepF, deepF, this]
    omega
theorem nestQ_sz (t : Tk) (b : Nd) : ∀ k, nsz (nestQ t b k) = k + nsz b
  | 0 => by rw [nestQ, Nat.zero_add]
  | k + 1 => by
    have := nestQ_sz t b k
    rw [nestQ, nsz, nszs, nszs, this]
    omega
theorem deepB_one (q n : Nat) (inner : List UInt8) : deepN (deepB q n inner) = 1 ∧ nsz (deepB q n inner) = 1 ∧ (deepB q n inner).kids = [] := by
  rw [deepB]
  split
  · exact ⟨by rw [deepN, deepF], by rw [nsz, nszs], rfl⟩
  · exact ⟨by rw [deepN, deepF], by rw [nsz, nszs], rfl⟩
theorem deepL_deep (q n : Nat) (inner : List UInt8) : deepF (deepL q n inner) = min (n + 1) 32 := by
  rw [deepL, deepF, deepF, deepF, deepF, nestQ_deep, (deepB_one q n inner).1, deepN, deepN, deepF]
  omega
theorem deepL_sz (q n : Nat) (inner : List UInt8) : nszs (deepL q n inner) ≤ 40 := by
  rw [deepL, nszs, nszs, nszs, nszs, nestQ_sz, (deepB_one q n inner).2.1, nsz, nsz, nszs]
  omega
end Go.Proofs.Ytogjmafjoliimaa
