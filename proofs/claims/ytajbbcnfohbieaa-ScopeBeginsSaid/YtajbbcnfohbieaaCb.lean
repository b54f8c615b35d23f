/- The engine, part 25: calls that only read own memory. -/
import Derived.Test.YtajbbcnfohbieaaC
namespace Go.Proofs.Ytajbbcnfohbieaa
open Go Go.RowKit

section
variable {P : Program} {o : Oper} {M : List AB} {ρ : Operand → AV}
theorem astep_mcall_ro {f : FuncId} {xs : Array Operand} {ts : Array TypeId} {M0 : List AB} {cargs : List AV} {res : AV} (σ : List Nat) (ho : o.op = .call { callee := .value (.func f), args := xs, argTypes := ts }) (hcall : Callable P f) (hc : MCalls P f M0 cargs M0 res)
    (hemb : EmbM M (nth σ) σ M0) (hnd : σ.Nodup) (hargs : Subs (xs.toList.map ρ) (AV.rens (nth σ) cargs)) (hu : (AV.unders σ.length cargs && M0.all (AB.under σ.length)) = true) (hM : setAll M σ (M0.map (AB.ren (nth σ))) = M) : AStep P o M ρ M (res.ren (nth σ)) := by
  have := astep_mcall σ ho hcall hc hemb hnd hargs rfl hu
  rwa [hM] at this
end
section
variable {P : Program} {ops : Array Oper} {N : Nat} {K : AS → Prop} {o : Oper} {r : List Oper} {fo fo' : Option (List Nat)} {M M' : List AB} {F : List (Nat × AV)} {dt : Tmp} {tab : List (Nat × TE)} {out : AV}
theorem r_mro {f : FuncId} {xs : Array Operand} {ts : Array TypeId} {M0 : List AB} {cargs : List AV} {res out : AV} (σ : List Nat) (hc : MCalls P f M0 cargs M0 res) (hcall : Callable P f) (hg : o.guard = none) (ho : o.op = .call { callee := .value (.func f), args := xs, argTypes := ts })
    (hemb : EmbM M (nth σ) σ M0) (hnd : σ.Nodup) (hargs : Subs (xs.toList.map (aval (look F))) (AV.rens (nth σ) cargs)) (hu : (AV.unders σ.length cargs && M0.all (AB.under σ.length)) = true)
    (hM' : setAll M σ (M0.map (AB.ren (nth σ))) = M) (hr : nf (res.ren (nth σ)) = some out) (hdd : o.dst = some dt) (hd : dstB o.dst N = true) (hp : popF fo 1 = some fo') (k : RunX P ops N K r fo' M ((dt, out) :: F)) : RunX P ops N K (o :: r) fo M F :=
  RunX.mk (fun _ k => Run.quiet hd (StepG.plain hg (astep_mcall_ro σ ho hcall hc hemb hnd hargs hu hM')) (by rw [put_eq hdd, nf_eq hr]; exact k)) hp k
theorem r_mro_cnd {j : Nat} {want c0 : Bool} {g : Tmp} {f : FuncId} {xs : Array Operand} {ts : Array TypeId} {M0 : List AB} {cargs : List AV} {res out : AV} (σ : List Nat) (hc : c0 = true → MCalls P f M0 cargs M0 res) (hcall : Callable P f) (hg : o.guard = some (j, want)) (hj : dstOf ops j = some g)
    (hF : guardOf want (look F g) = some c0) (ho : o.op = .call { callee := .value (.func f), args := xs, argTypes := ts }) (hcs : c0 = true → condsOf (look F) o.op.operands.toList = true)
    (hemb : EmbM M (nth σ) σ M0) (hnd : σ.Nodup) (hargs : Subs (xs.toList.map (aval fun t => strip (look F t))) (AV.rens (nth σ) cargs)) (hu : (AV.unders σ.length cargs && M0.all (AB.under σ.length)) = true)
    (hM' : setAll M σ (M0.map (AB.ren (nth σ))) = M) (hr : nf (res.ren (nth σ)) = some out) (hdd : o.dst = some dt) (hd : dstB o.dst N = true) (hp : popF fo 1 = some fo') (k : RunX P ops N K r fo' M ((dt, .cnd c0 out) :: F)) : RunX P ops N K (o :: r) fo M F :=
  RunX.mk (fun _ k => Run.quiet hd (StepG.cnd hg hj hF hcs fun h => astep_mcall_ro σ ho hcall (hc h) hemb hnd hargs hu hM') (by rw [put_eq hdd, nf_eq hr]; exact k)) hp k
end
end Go.Proofs.Ytajbbcnfohbieaa
