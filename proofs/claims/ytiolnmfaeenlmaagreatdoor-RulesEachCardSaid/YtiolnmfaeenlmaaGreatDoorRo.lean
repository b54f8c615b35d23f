/- Theorems that RulesEach needs besides. -/
import Derived.Test.YtiolnmfaeenlmaaGreatDoorR0
namespace Go.Proofs.YtiolnmfaeenlmaaGreatDoor
open Go Go.RowKit
set_option maxRecDepth 20000

theorem u8s_eq : ∀ {es : List D} {ns : List Int}, u8s es = some ns → es = ns.map fun n => .val (.int .u8 n)
  | [], ns, h => by cases h; rfl
  | d :: r, ns, h => by
    unfold u8s at h
    split at h
    · rename_i h'; cases h'
    · rename_i n r' h'
      cases h'
      split at h
      · rename_i ns' h1
        cases h
        rw [u8s_eq h1]
        rfl
      · cases h
    · cases h
section
variable {P : Program} {ops : Array Oper} {N : Nat} {K : AS → Prop} {o : Oper} {r : List Oper} {fo fo' : Option (List Nat)} {M M' : List AB} {F : List (Nat × AV)} {dt : Tmp} {tab : List (Nat × TE)} {out : AV}
theorem r_bstr (ht : TyTab P tab) {T U e : Nat} {ee : TE} {x : Operand} {es : List D} {ns : List Int} (hg : o.guard = none) (ho : o.op = .convert T U x) (hT : elemOf_ tab T = some (e, ee)) (he : kindAt tab e = some (.int .u8)) (hU : kindAt tab U = some .str)
    (hx : aval (look F) x = .sl 1 es) (hns : u8s es = some ns) (hdd : o.dst = some dt) (hd : dstB o.dst N = true) (hp : popF fo 0 = some fo') (k : RunX P ops N K r fo' M ((dt, .val (.string (bytesStr ns))) :: F)) : RunX P ops N K (o :: r) fo M F :=
  RunX.mk (fun _ k => Run.pure_ hd (fun _ => StepG.plain hg (astep_bytes_str ht ho hT he hU (by rw [hx, u8s_eq hns]))) (by rw [put_eq hdd]; exact k)) hp k
end
end Go.Proofs.YtiolnmfaeenlmaaGreatDoor
