/- The engine, more rules: an element of a slice whose elements are written out. -/
import Derived.Test.YtajbbcnfohbieaaEn
namespace Go.Proofs.Ytajbbcnfohbieaa
open Go Go.RowKit
section
variable {P : Program} {ops : Array Oper} {N : Nat} {K : AS → Prop} {o : Oper} {r : List Oper} {fo fo' : Option (List Nat)} {M M' : List AB} {F : List (Nat × AV)} {dt : Tmp} {tab : List (Nat × TE)} {out : AV}
theorem r_idxd (ht : TyTab P tab) {T e : Nat} {ee : TE} {x y : Operand} {q : IntKind} {n : Int} {es : List D} {d : D} {cs : List AV} (hg : o.guard = none) (ho : o.op = .indexAddr T x y) (hT : elemOf_ tab T = some (e, ee))
    (hx : aval (look F) x = .sl ee.size es) (hy : aval (look F) y = .val (.int q n)) (hdd : o.dst = some dt) (hd : dstB o.dst N = true) (hn : 0 ≤ n) (hi : es[n.toNat]? = some d) (hcs : nfs d.cells = some cs)
    (hp : popF fo 0 = some fo') (k : RunX P ops N K r fo' (M) ((dt, (.dptr cs)) :: F)) : RunX P ops N K (o :: r) fo M F :=
  RunX.mk (fun _ k => Run.pure_ (out := .dptr cs) hd (fun _ => StepG.plain hg (by rw [← nfs_eq hcs]; exact astep_idx ht ho hT hx hy hn hi)) (by rw [put_eq hdd]; exact k)) hp k
end
end Go.Proofs.Ytajbbcnfohbieaa
