/- Scope: counters, as plain lists. -/
import Derived.Test.YtajbbcnfohbieaaD
import Derived.Test.YtajbbcnfohbieaaG3
import Derived.Test.YtajbbcnfohbieaaTy
namespace Go.Proofs.Ytajbbcnfohbieaa
open Go Go.RowKit

structure Ctr where
  name : ByteArray
  of : Int
  n : Int
  rev : Bool
def cD (c : Ctr) : D := .ag [.val (.string c.name), .val (.int .i64 c.of), .val (.int .i64 c.n), .val (.bool c.rev)]
def cV (c : Ctr) : Value := .agg #[.string c.name, .int .i64 c.of, .int .i64 c.n, .bool c.rev]
def cAV (c : Ctr) : AV := .agg [.val (.string c.name), .val (.int .i64 c.of), .val (.int .i64 c.n), .val (.bool c.rev)]
theorem cV_sat (c : Ctr) {M : List AB} {β : Env} {w : World} {imm : Nat → Prop} : AVsat M β w imm (cAV c) (cV c) :=
  ⟨_, rfl, _, _, rfl, rfl, _, _, rfl, rfl, _, _, rfl, rfl, _, _, rfl, rfl, rfl⟩
instance : Inhabited Ctr := ⟨⟨⟨#[]⟩, 0, 0, false⟩⟩
/-- The last place ahead of k where it holds; -1: nowhere. -/
def lastI (p : Ctr → Bool) (l : List Ctr) : Nat → Int
  | 0 => -1
  | k + 1 => if p (l.getD k default) then k else lastI p l k
theorem lastI_lt (p : Ctr → Bool) (l : List Ctr) : ∀ k, -1 ≤ lastI p l k ∧ lastI p l k < k
  | 0 => by simp [lastI]
  | k + 1 => by
    have := lastI_lt p l k
    rw [lastI]
    split <;> omega
theorem lastI_append (p : Ctr → Bool) (l m : List Ctr) : ∀ k, k ≤ l.length → lastI p (l ++ m) k = lastI p l k
  | 0, _ => rfl
  | k + 1, h => by
    rw [lastI, lastI, lastI_append p l m k (by omega)]
    simp [List.getD_eq_getElem?_getD, List.getElem?_append_left (show k < l.length by omega)]
def innerF (l : List Ctr) (name : ByteArray) : Int := lastI (fun c => decide (c.name = name)) l l.length
def finalF (l : List Ctr) (x : Ctr) : Int := lastI (fun c => decide (c.name = x.name) && decide (c.of = x.of)) l l.length
theorem inner_last (l : List Ctr) (c : Ctr) : innerF (l ++ [c]) c.name = l.length := by
  unfold innerF
  rw [List.length_append, List.length_singleton, lastI]
  simp [List.getD_eq_getElem?_getD]
end Go.Proofs.Ytajbbcnfohbieaa
