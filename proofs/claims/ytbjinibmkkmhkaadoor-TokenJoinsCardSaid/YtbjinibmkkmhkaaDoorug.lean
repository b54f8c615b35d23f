/- The first part of an own row as a slice, lent to calls that take data; the plain law of TokenJoins. -/
import Derived.Test.YtbjinibmkkmhkaaDooruf
import Derived.Test.YtbjinibmkkmhkaaDooruz
import Derived.Test.YtbjinibmkkmhkaaDoorJa
namespace Go.Proofs.YtbjinibmkkmhkaaDoor
open Go Go.RowKit
set_option maxRecDepth 20000

def pfxV (a : Nat) : Nat → Option (Nat × Nat) → Nat → Value → Prop := fun _ b _ v => ∃ g c, b = some (g, c) ∧ v = .slice (some ⟨g, 0, none⟩) a c
section
variable {P : Program} {o : Oper} {M M' : List AB} {ρ : Operand → AV} {out : AV} {tab : List (Nat × TE)}
theorem astep_pfx (ht : TyTab P tab) {T e i ver e' : Nat} {ee : TE} {x y : Operand} {q : IntKind} {a : Int} {es : List D} (ho : o.op = .slice T x none (some y) none) (hT : elemOf_ tab T = some (e, ee)) (hx : ρ x = .row i ver) (hM : M[i]? = some (.row ver e' ee.size es)) (hne : es ≠ [])
    (hy : ρ y = .val (.int q a)) (hb : 0 ≤ a ∧ a ≤ (es.length : Int)) : AStep P o M ρ M (.vw i ver (pfxV a.toNat)) :=
  .value fun S B β w0 w hm hs => by
    have h1 := hs x (by simp [ho, Op.operands])
    have h2 := hs y (by simp [ho, Op.operands])
    rw [hx] at h1; rw [hy] at h2
    have h2 : w0.eval y = .int q a := h2
    obtain ⟨k1, _⟩ := row_val hm hM h1
    obtain ⟨g, c, cs, b1, b2, b3, b4, b5, b6⟩ := row_some hm hM hne
    obtain ⟨hu', he⟩ := elemOf_spec ht hT
    obtain ⟨hu'', he'⟩ := elem_of hu'
    have hsz := run_sizeOf (P := P) (w := w) he
    rw [← he'] at hsz
    rw [b1] at k1
    have e := run_slice_h (P := P) w T (some ⟨g, 0, none⟩) es.length c hu'' q a hb.1 (by omega)
    refine ⟨.slice (some ⟨g, 0, none⟩) a.toNat c, ?_, _, hM, Nat.le_refl _, fun _ => ⟨g, c, b1, rfl⟩⟩
    simp only [execOp, ho, k1, rowVal, h2, Sem.run_bind, run_sliceAt_slice _ _ _ _ _ _ hu'']
    simp [h2, e, hsz, sliced, addr_add]
end
/-- What is handed to a call that takes data: data, an own row, or an own row's first part. -/
def LendsP (M : List AB) : List AV → List AV → Prop
  | [], [] => True
  | x :: xs, y :: ys => ((x = y ∧ x.free = true) ∨ (∃ i ver e k es, x = .row i ver ∧ y = .sl k es ∧ M[i]? = some (.row ver e k es)) ∨ (∃ i ver e k es m, x = .vw i ver (pfxV m) ∧ y = .sl k (es.take m) ∧ m ≤ es.length ∧ es ≠ [] ∧ M[i]? = some (.row ver e k es))) ∧ LendsP M xs ys
  | _, _ => False
theorem lend_pfx {S : Nat → Prop} {B : Nat} {M : List AB} {β : Env} {w : World} (hm : MemSat S B M β w) {i ver e k m : Nat} {es : List D} (hM : M[i]? = some (.row ver e k es)) (hl : m ≤ es.length) (hne : es ≠ []) {v : Value} (h : AVsat M β w (immOf S B M β w) (.vw i ver (pfxV m)) v) :
    DenC w (fun b => b < w.heap.size) (.sl k (es.take m)) [v] := by
  obtain ⟨ab, h1, h2⟩ := h
  rw [hM] at h1; cases h1
  obtain ⟨g, c, h3, h4⟩ := h2.2 rfl
  obtain ⟨g', cap, cs, hb, hr, h5, h6, h7, h8⟩ := row_some hm hM hne
  have hw := (hm.ent i _ hM).1
  rw [h3] at hb; cases hb
  subst h4
  have hlen : (es.take m).length = m := by rw [List.length_take, Nat.min_eq_left hl]
  refine ⟨some ⟨g, 0, none⟩, m, c, rfl, hlen.symm, Nat.le_trans hl h5, h6, fun d hd => hw d (List.mem_of_mem_take hd), fun _ => ⟨g, 0, cs.toList.take (m * k), rfl, ?_, ?_, fun j u hu => ?_⟩⟩
  · obtain ⟨fz, hg, _⟩ := hr; exact heap_lt hg
  · have hd := DenCs.take_ (i := m) h8 hw
    rw [List.take_take, Nat.min_eq_left (Nat.mul_le_mul_right _ hl)] at hd
    exact DenCs.mono (fun b hb => hb.2.1) (fun _ _ _ => rfl) _ _ hd
  · rw [Nat.zero_add]
    rw [List.getElem?_take] at hu
    split at hu
    · rename_i hj
      rw [hr.cell, ← Array.getElem?_toList]
      exact hu
    · cases hu
theorem lendsP_sat {S : Nat → Prop} {B : Nat} {M : List AB} {β : Env} {w : World} (hm : MemSat S B M β w) : ∀ {xs ys : List AV} {vs : List Value}, LendsP M xs ys → AVsats M β w (immOf S B M β w) xs vs → AVsats [] noE w (fun b => b < w.heap.size) ys vs
  | [], [], _, _, h => h
  | x :: xs, y :: ys, _, ⟨h1, h2⟩, ⟨v, r, h3, h4, h5⟩ => by
    refine ⟨v, r, h3, ?_, lendsP_sat hm h2 h5⟩
    rcases h1 with ⟨rfl, hf⟩ | ⟨i, ver, e, k, es, rfl, rfl, hM⟩ | ⟨i, ver, e, k, es, m, rfl, rfl, hl, hne, hM⟩
    · exact AVsat.free_ (fun b hb => hb.2.1) (fun _ _ _ => rfl) _ _ hf h4
    · exact lend_row hm hM h4
    · exact lend_pfx hm hM hl hne h4
  | [], _ :: _, _, h, _ => h.elim
  | _ :: _, [], _, h, _ => h.elim
theorem mcalls_lendp {P : Program} {f : FuncId} {M0 : List AB} {cargs xs : List AV} {res : AV} (hc : PCalls P f cargs res) (hl : LendsP M0 xs cargs) (hb : res.bare = true) : MCalls P f M0 xs M0 res := by
  intro S B β w vs hm hvs
  refine (hc (fun b => b < w.heap.size) w vs (fun _ h => h) (hm.gl.mono (fun b hb => hb.2.1) (fun _ _ _ => rfl)) (lendsP_sat hm hl hvs)).mono fun e w' ⟨v, he, hbe, hv⟩ => ?_
  exact ⟨v, β, he, Ev.of_below hbe, hm.quiet hbe, bare_sat _ _ hb hv⟩

theorem StepG.offu {P : Program} {ops : Array Oper} {o : Oper} {M : List AB} {F : Nat → AV} {j : Nat} {want : Bool} {g : Tmp} (hg : o.guard = some (j, want)) (hj : dstOf ops j = some g) (hF : F g = .val undef) : StepG P ops o M F M (.val undef) := by
  intro S B β a w hm hs K Q hK
  have h1 := hs g (guard_mem hg hj)
  rw [hF] at h1
  have hy := yielded_of (a := a) hj h1
  have hw : Region.wanted o (yielded ops a.tmps) = false := by simp [Region.wanted, hg, hy, boolOf, undef]
  rw [hw]
  exact hK undef β w (Ev.refl _ _ _) hm rfl
theorem r_offu {P : Program} {ops : Array Oper} {N : Nat} {K : AS → Prop} {o : Oper} {r : List Oper} {fo fo' : Option (List Nat)} {M : List AB} {F : List (Nat × AV)} {dt : Tmp} {j : Nat} {want : Bool} {g : Tmp} (hg : o.guard = some (j, want)) (hj : dstOf ops j = some g) (hF : look F g = .val undef) (hdd : o.dst = some dt) (hd : dstB o.dst N = true)
    (hp : popF fo 0 = some fo') (k : RunX P ops N K r fo' (M) ((dt, (.val undef)) :: F)) : RunX P ops N K (o :: r) fo M F :=
  RunX.mk (fun _ k => Run.pure_ hd (fun _ => StepG.offu hg hj hF) (by rw [put_eq hdd]; exact k)) hp k
theorem bnot_t {p : Prop} [Decidable p] (h : p) : (!decide p) = false := by rw [decide_eq_true h]; rfl
theorem bnot_f {p : Prop} [Decidable p] (h : ¬ p) : (!decide p) = true := by rw [decide_eq_false h]; rfl
theorem cat_two (x y : List UInt8) : (⟨x.toArray⟩ : ByteArray) ++ (⟨y.toArray⟩ : ByteArray) = ⟨(x ++ y).toArray⟩ := bytes_cat x y
theorem size_of (A : List UInt8) : (⟨A.toArray⟩ : ByteArray).size = A.length := by rw [← str_size]
theorem white_head {B : List Int} (hw : whiteF (gt B 0) = true) : ∃ r, toksL B = tkK 13 ⟨#[]⟩ :: r := by
  match B, hw with
  | [], h => cases h
  | c :: r, h =>
    have h1 : whiteF c = true := h
    have h2 : c = 10 ∨ c = 9 ∨ c = 32 := by simp only [whiteF, Bool.or_eq_true, decide_eq_true_eq] at h1; omega
    refine ⟨toksL (tokL (c :: r)).2, ?_⟩
    rw [toksL_at (l := c :: r) (by show 0 ≤ c; omega) (by left; show c ≠ 47; omega)]
    congr 1
    rw [tokL, show gt (c :: r) 0 = c from rfl, if_neg (plI_no (by omega)), if_pos h1]
/-- The plain law of TokenJoins. -/
theorem joins (a b : List UInt8) (hz : (toks ⟨(a ++ [32]).toArray⟩).length = (toks ⟨a.toArray⟩).length + 1) (hw : ∀ t r, toks ⟨b.toArray⟩ = t :: r → t.kind ≠ 13) (hb : b.length ≤ 2 ∨ ∀ c r, b = c :: r → c.toNat ≠ 239) :
    toks ⟨(a ++ 32 :: b).toArray⟩ = toks ⟨(a ++ [32]).toArray⟩ ++ toks ⟨b.toArray⟩ := by
  have e1 : readS true false (a ++ 32 :: b) = readS true false a ++ 32 :: readS false false b := readS_cat 32 b rfl (by decide) a.length a true false (Nat.le_refl _)
  have e2 : readS true false (a ++ [32]) = readS true false a ++ [32] := readS_cat 32 [] rfl (by decide) a.length a true false (Nat.le_refl _)
  rw [toks_bytes, toks_bytes, e2] at hz
  rw [toks_bytes, toks_bytes, toks_bytes, e1, e2, readS_fi b hb]
  refine toks_stb _ ?_ _ _ (Nat.le_refl _) hz
  cases h : whiteF (gt (readS false false b) 0) with
  | false => rfl
  | true =>
    obtain ⟨r, hr⟩ := white_head h
    refine absurd rfl (hw (tkK 13 ⟨#[]⟩) r ?_)
    rw [toks_bytes, readS_fi b hb, hr]
end Go.Proofs.YtbjinibmkkmhkaaDoor
