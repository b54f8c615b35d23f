import Derived.Test.YtllmagfmbglefaaDoorP5
/- Styles; what prop says, plain. -/
namespace Go.Proofs.YtllmagfmbglefaaDoor
open Go Go.RowKit
set_option maxRecDepth 20000

def qtS : ByteArray := ⟨#[111, 112, 101, 110, 45, 113, 117, 111, 116, 101, 32, 99, 108, 111, 115, 101, 45, 113, 117, 111, 116, 101, 32, 110, 111, 45, 111, 112, 101, 110, 45, 113, 117, 111, 116, 101, 32, 110, 111, 45, 99, 108, 111, 115, 101, 45, 113, 117, 111, 116, 101]⟩
def atS : ByteArray := ⟨#[97, 116, 116, 114]⟩
def ctrS : ByteArray := ⟨#[99, 111, 117, 110, 116, 101, 114]⟩
def ctsS : ByteArray := ⟨#[99, 111, 117, 110, 116, 101, 114, 115]⟩
def itZ : It := ⟨0, ⟨#[]⟩, ⟨#[]⟩, ⟨#[]⟩⟩
def itemF2 (n : Nd) (l : List Nd) : It × Bool :=
  if isFn n ctrS then ctP3 (wT l) else
  if isFn n ctsS then ctP4 (wT l) else (itZ, false)
def itemF1 (n : Nd) : List Nd → It × Bool
  | [m] => if isFn n atS then (⟨2, (idnF m).1, ⟨#[]⟩, ⟨#[]⟩⟩, (idnF m).2) else itemF2 n [m]
  | l => itemF2 n l
def itemF (n : Nd) : It × Bool :=
  if n.tok.kind = 5 then (⟨1, n.tok.text, ⟨#[]⟩, ⟨#[]⟩⟩, true) else
  if (idnF n).2 && inW qtS (idnF n).1 then (⟨4 + (idxF (yQ qtS) (idnF n).1 + 1), ⟨#[]⟩, ⟨#[]⟩, ⟨#[]⟩⟩, true) else
  itemF1 n (tigF n.kids)
theorem tigF_sz : ∀ l : List Nd, vu (tigF l) ≤ vu l
  | [] => Nat.le_refl _
  | n :: r => by
    have := tigF_sz r
    simp only [tigF, List.filter_cons] at this ⊢
    split
    · simp only [vu]; omega
    · simp only [vu]; omega
structure Sty where
  disp : ByteArray
  lty : ByteArray
  col : ByteArray
  cont : List It
  normal : Bool
  nothing : Bool
  quotes : List ByteArray
  auto : Bool
  reset : List Pr
  add : List Pr
  set : List Pr
def zS : Sty := ⟨⟨#[]⟩, ⟨#[]⟩, ⟨#[]⟩, [], false, false, [], false, [], [], []⟩
def stC (s : Sty) : List AV := [.val (.string s.disp), .val (.string s.lty), .val (.string s.col), .sl 4 (s.cont.map itD), .val (.bool s.normal), .val (.bool s.nothing), .sl 1 (s.quotes.map sF), .val (.bool s.auto), .sl 4 (s.reset.map prD), .sl 4 (s.add.map prD), .sl 4 (s.set.map prD)]
def stA (s : Sty) : AV := .agg (stC s)
def stD (s : Sty) : D := .ag [.val (.string s.disp), .val (.string s.lty), .val (.string s.col), .sl 4 (s.cont.map itD), .val (.bool s.normal), .val (.bool s.nothing), .sl 1 (s.quotes.map sF), .val (.bool s.auto), .sl 4 (s.reset.map prD), .sl 4 (s.add.map prD), .sl 4 (s.set.map prD)]
/-- A value's box: with a name, nothing said yet; and with a style. -/
def vZ (nm : ByteArray) : AB := .box 30 [.val (.string nm), .val (.int .i64 0), .val (.string ⟨#[]⟩), .val (.string ⟨#[]⟩), .val (.string ⟨#[]⟩), .val (.slice none 0 0), .val (.bool false), .val (.bool false), .val (.slice none 0 0), .val (.bool false), .val (.slice none 0 0), .val (.slice none 0 0), .val (.slice none 0 0)]
def vS (nm : ByteArray) (s : Sty) : AB := .box 30 [.val (.string nm), .val (.int .i64 0), .val (.string s.disp), .val (.string s.lty), .val (.string s.col), .sl 4 (s.cont.map itD), .val (.bool s.normal), .val (.bool s.nothing), .sl 1 (s.quotes.map sF), .val (.bool s.auto), .sl 4 (s.reset.map prD), .sl 4 (s.add.map prD), .sl 4 (s.set.map prD)]
def vX : AB := .box 30 [.any, .any, .any, .any, .any, .any, .any, .any, .any, .any, .any, .any, .any]
def vR (nm : ByteArray) : Option Sty → AB
  | none => vX
  | some s => vS nm s
def norS : ByteArray := ⟨#[110, 111, 114, 109, 97, 108]⟩
def autS : ByteArray := ⟨#[97, 117, 116, 111]⟩
def conF1 : List Nd → List It → Option (List It)
  | [], acc => some acc
  | n :: r, acc => if (itemF n).2 then conF1 r (acc ++ [(itemF n).1]) else none
def conF (l : List Nd) : Option Sty :=
  if aloF l = norS then some { zS with normal := true } else
  if aloF l = nonS then some { zS with nothing := true } else
  match conF1 l [] with
  | none => none
  | some a => if l.length ≤ 32 then some { zS with cont := a } else none
def marF1 : List Nd → List ByteArray → Option (List ByteArray)
  | [], acc => some acc
  | n :: r, acc => if n.tok.kind = 5 then marF1 r (acc ++ [n.tok.text]) else none
def marF (l : List Nd) : Option Sty :=
  if aloF l = nonS then some zS else
  if aloF l = autS then some { zS with auto := true } else
  match marF1 l [] with
  | none => none
  | some a => if l.length % 2 = 0 ∧ l.length ≤ 32 then some { zS with quotes := a } else none
def colS : ByteArray := ⟨#[99, 111, 108, 111, 114]⟩
def conS : ByteArray := ⟨#[99, 111, 110, 116, 101, 110, 116]⟩
def incS : ByteArray := ⟨#[99, 111, 117, 110, 116, 101, 114, 45, 105, 110, 99, 114, 101, 109, 101, 110, 116]⟩
def rstS : ByteArray := ⟨#[99, 111, 117, 110, 116, 101, 114, 45, 114, 101, 115, 101, 116]⟩
def setS : ByteArray := ⟨#[99, 111, 117, 110, 116, 101, 114, 45, 115, 101, 116]⟩
def dspS : ByteArray := ⟨#[100, 105, 115, 112, 108, 97, 121]⟩
def lstS : ByteArray := ⟨#[108, 105, 115, 116, 45, 115, 116, 121, 108, 101, 45, 116, 121, 112, 101]⟩
def quoS : ByteArray := ⟨#[113, 117, 111, 116, 101, 115]⟩
def namN : ByteArray := ⟨([99, 111, 108, 111, 114, 32, 99, 111, 110, 116, 101, 110, 116, 32, 99, 111, 117, 110, 116, 101, 114, 45, 105, 110, 99, 114, 101, 109, 101, 110, 116, 32, 99, 111, 117, 110, 116, 101, 114, 45, 114, 101, 115, 101].append [116, 32, 99, 111, 117, 110, 116, 101, 114, 45, 115, 101, 116, 32, 100, 105, 115, 112, 108, 97, 121, 32, 108, 105, 115, 116, 45, 115, 116, 121, 108, 101, 45, 116, 121, 112, 101, 32, 113, 117, 111, 116, 101, 115]).toArray⟩
def widN : ByteArray := ⟨#[105, 110, 104, 101, 114, 105, 116, 32, 105, 110, 105, 116, 105, 97, 108, 32, 117, 110, 115, 101, 116]⟩
def disN : ByteArray := ⟨#[110, 111, 110, 101, 32, 98, 108, 111, 99, 107, 32, 105, 110, 108, 105, 110, 101, 32, 108, 105, 115, 116, 45, 105, 116, 101, 109]⟩
def colF : List Nd → Option Sty
  | [n] => if (idnF n).2 then some { zS with col := (idnF n).1 } else none
  | _ => none
def sayF (nm : ByteArray) (l : List Nd) : Option Sty :=
  if nm = colS then colF l else
  if nm = conS then conF l else
  if nm = incS then (if (kf l 1 false).2 then some { zS with add := (kf l 1 false).1 } else none) else
  if nm = rstS then (if (kf l 0 true).2 then some { zS with reset := (kf l 0 true).1 } else none) else
  if nm = setS then (if (kf l 0 false).2 then some { zS with set := (kf l 0 false).1 } else none) else
  if nm = dspS then (if inW disN (aloF l) then some { zS with disp := aloF l } else none) else
  if nm = lstS then (if (ltyF1 l).2 then some { zS with lty := (ltyF1 l).1 } else none) else
  if nm = quoS then marF l else none
def namL : List ByteArray := [colS, conS, incS, rstS, setS, dspS, lstS, quoS]
structure Val where
  name : ByteArray
  wide : Int
  sty : Sty
def vC (v : Val) : List AV := .val (.string v.name) :: .val (.int .i64 v.wide) :: stC v.sty
def vA (v : Val) : AV := .agg (vC v)
def zV : Val := ⟨⟨#[]⟩, 0, zS⟩
def parF1 (nm : ByteArray) (l : List Nd) : Val × Int :=
  if ¬ inW namN nm ∨ l.length = 0 then (zV, 2) else
  if idxF (yQ widN) (aloF l) + 1 = 0 then
    (match sayF nm l with
    | none => (zV, 2)
    | some s => (⟨nm, 0, s⟩, 0))
  else (⟨nm, idxF (yQ widN) (aloF l) + 1, zS⟩, 0)
def parF (nm : ByteArray) (v : List Nd) : Val × Int := parF1 nm (tigF v)
end Go.Proofs.YtllmagfmbglefaaDoor

/- prop.counted for counters(); walked. -/
namespace Go.Proofs.YtllmagfmbglefaaDoor
open Go Go.RowKit
set_option maxRecDepth 20000

end Go.Proofs.YtllmagfmbglefaaDoor

/- prop.item; walked. -/
namespace Go.Proofs.YtllmagfmbglefaaDoor
open Go Go.RowKit
set_option maxRecDepth 20000

end Go.Proofs.YtllmagfmbglefaaDoor

/- prop.content, marks; walked. -/
namespace Go.Proofs.YtllmagfmbglefaaDoor
open Go Go.RowKit
set_option maxRecDepth 20000

/-- A value's box with one field that is a row of its own. -/
def vCo (nm : ByteArray) : AB := .box 30 [.val (.string nm), .val (.int .i64 0), .val (.string ⟨#[]⟩), .val (.string ⟨#[]⟩), .val (.string ⟨#[]⟩), .row 1 0, .val (.bool false), .val (.bool false), .val (.slice none 0 0), .val (.bool false), .val (.slice none 0 0), .val (.slice none 0 0), .val (.slice none 0 0)]
def vQu (nm : ByteArray) : AB := .box 30 [.val (.string nm), .val (.int .i64 0), .val (.string ⟨#[]⟩), .val (.string ⟨#[]⟩), .val (.string ⟨#[]⟩), .val (.slice none 0 0), .val (.bool false), .val (.bool false), .row 1 0, .val (.bool false), .val (.slice none 0 0), .val (.slice none 0 0), .val (.slice none 0 0)]
structure CoS (l : List Nd) where
  i : Nat
  acc : List It
  hi : i ≤ l.length
  ha : acc.length ≤ i
  eq : conF1 (l.drop i) acc = conF1 l []
structure QuS (l : List Nd) where
  i : Nat
  acc : List ByteArray
  hi : i ≤ l.length
  ha : acc.length ≤ i
  eq : marF1 (l.drop i) acc = marF1 l []
end Go.Proofs.YtllmagfmbglefaaDoor
