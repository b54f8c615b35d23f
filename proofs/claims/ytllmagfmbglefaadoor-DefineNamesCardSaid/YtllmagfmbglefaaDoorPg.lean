import Derived.Test.YtllmagfmbglefaaDoorP9
import Derived.Test.YtllmagfmbglefaaDoorJa
/- prop.say; walked. -/
namespace Go.Proofs.YtllmagfmbglefaaDoor
open Go Go.RowKit
set_option maxRecDepth 20000

end Go.Proofs.YtllmagfmbglefaaDoor

/- prop.Parse; walked. -/
namespace Go.Proofs.YtllmagfmbglefaaDoor
open Go Go.RowKit
set_option maxRecDepth 20000

section
variable {P : Program} {ops : Array Oper} {N : Nat} {K : AS → Prop} {o : Oper} {r : List Oper} {fo fo' : Option (List Nat)} {M M' : List AB} {F : List (Nat × AV)} {dt : Tmp} {out : AV} {tab : List (Nat × TE)}
end
end Go.Proofs.YtllmagfmbglefaaDoor

/- law12: the declarations of a text; one. -/
namespace Go.Proofs.YtllmagfmbglefaaDoor
open Go Go.RowKit
set_option maxRecDepth 20000

theorem toksF_len (L : List Int) : (yA L).length ≤ L.length := by
  obtain ⟨r, j, h1, h2, h3, h4, h5⟩ := wM (zb L) L.length 0 (Nat.zero_le _) (by omega)
  rw [yA]
  omega
def toks (s : ByteArray) : List Tk := yA (xX s)
theorem toks_len (s : ByteArray) : (toks s).length ≤ s.size := Nat.le_trans (toksF_len _) (zU s)
def wb (s : ByteArray) : List Nd := wV (toks s) 0
def dcsF (s : ByteArray) : List Dc := ye (wb s) 0
def okT (n : Nd) : Bool := decide (n.tok.text.size ≤ 1099511627776)
/-- Nothing in a declaration is too great. -/
def okDc (d : Dc) : Bool := decide (vu d.value < 1099511627776) && d.value.all fun n => okT n && n.kids.all okT
def okS (s : ByteArray) : Bool := decide (s.size ≤ 549755813888) && (wb s).all okT && (dcsF s).all okDc
def oneF (s : ByteArray) : Val × Int :=
  match dcsF s with
  | [d] => parF d.name d.value
  | _ => (zV, 5)
end Go.Proofs.YtllmagfmbglefaaDoor
