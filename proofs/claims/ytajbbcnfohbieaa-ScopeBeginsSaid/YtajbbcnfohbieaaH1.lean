/- slices.Backward's closure over counters: a promise for whatever the loop's body is. -/
import Derived.RangeFuncBox
import Derived.RangeFuncLeaves
import Derived.RangeFuncNested
import Derived.WalkKit
import Derived.OwnWalkIn
import Derived.TacticsInMore
import Derived.LoopNIn
import Derived.LoopIn
import Derived.Test.YtajbbcnfohbieaaS1
namespace Go.Proofs.Ytajbbcnfohbieaa
open Go Go.RowKit

attribute [local go_sem] Oper.semAt_some

def revs (n : Nat) : List (Fin n) := (List.finRange n).reverse
theorem revs_len (n : Nat) : (revs n).length = n := by simp [revs]
theorem revs_take_succ {n k : Nat} (hk : k < n) : (revs n).take (k + 1) = (revs n).take k ++ [⟨n - 1 - k, by omega⟩] := by
  rw [List.take_succ_eq_append_getElem (by rw [revs_len]; exact hk)]
  congr 2
  simp [revs]

def cCell (c : Ctr) : Nat → Value
  | 0 => .string c.name
  | 1 => .int .i64 c.of
  | 2 => .int .i64 c.n
  | _ => .bool c.rev
/-- A slice of counters lies there. -/
def lies (W : World) (b off : Nat) (zs : List Ctr) : Prop := ∀ j (hj : j < zs.length), W.cell? ⟨b, off + j * 4, none⟩ = some (.string zs[j].name) ∧ W.cell? ⟨b, off + j * 4 + 1, none⟩ = some (.int .i64 zs[j].of) ∧ W.cell? ⟨b, off + j * 4 + 2, none⟩ = some (.int .i64 zs[j].n) ∧ W.cell? ⟨b, off + j * 4 + 3, none⟩ = some (.bool zs[j].rev)
set_option maxRecDepth 100000 in
set_option maxHeartbeats 4000000 in
theorem back_ctrs_in (l Bs bo b off cap : Nat) (zs : List Ctr) (hcap : zs.length ≤ 9223372036854775807) (Kp : World → World → Prop) (hKs : ∀ A B, Kp A B → B.cell? ⟨Bs, bo, none⟩ = A.cell? ⟨Bs, bo, none⟩) (hKb : ∀ A B, Kp A B → lies A b off zs → lies B b off zs)
    (J Jx : List (Fin zs.length) → World → Prop)
    (hY : ∀ pre x W, J pre W → pre.length < zs.length → YieldAt Fence.wide 0 Try.prog l #[.int .i64 (x.1 : Int), cV zs[x.1]] W fun e W' =>
      (e = .returned (.bool true) ∧ J (pre ++ [x]) W' ∧ Kp W W') ∨ (e = .returned (.bool false) ∧ Jx (pre ++ [x]) W'))
    (W : World) (hBs : W.cell? ⟨Bs, bo, none⟩ = some (.slice (some ⟨b, off, none⟩) zs.length cap)) (hc : lies W b off zs) (h0 : J [] W) :
    CallsIn Fence.wide 1 Try.prog 31 #[.func (.yield l) #[] #[], .pointer (some ⟨Bs, bo, none⟩)] W fun e W' => (∃ v, e = .returned v) ∧
      ((∃ ys, ys = revs zs.length ∧ J ys W') ∨ (∃ pre, (∃ k, k ≤ zs.length ∧ pre = (revs zs.length).take k) ∧ Jx pre W')) := by
  refine callsIn_of_wp Try.func31 rfl trivial ?_ rfl
  simp only [Try.ntmps31, List.size_toArray, List.length_cons, List.length_nil, Nat.reduceAdd, Nat.reduceSub, Array.replicate_succ, Array.replicate_zero, List.push_toArray, List.append_toArray, List.nil_append, List.cons_append]
  gi_wp2
  gi_loopw [3] (fun i wr => ∃ k : Nat, k ≤ zs.length ∧ i = .int .i64 ((zs.length : Int) - 1 - k) ∧ J ((revs zs.length).take k) wr ∧ wr.cell? ⟨Bs, bo, none⟩ = some (.slice (some ⟨b, off, none⟩) zs.length cap) ∧ lies wr b off zs)
    (fun i _ => (intOf i + 1).toNat)
  case atStart => exact ⟨0, Nat.zero_le _, by simp [wrap64], h0, hBs, hc⟩
  case round =>
    obtain ⟨k, hk, rfl, hJs, hcs, hcc⟩ := hrel
    by_cases hlt : k < zs.length
    · obtain ⟨m, hm⟩ : ∃ m : Nat, (zs.length : Int) - 1 - k = m := ⟨zs.length - 1 - k, by omega⟩
      have hml : m < zs.length := by omega
      rw [hm]
      obtain ⟨fn, tmps, assign, body, hy, hR⟩ := hY _ ⟨m, hml⟩ wr hJs (by rw [List.length_take, revs_len]; omega)
      dsimp only at hy
      simp only [cV] at hy
      obtain ⟨hcx0, hcx1, hcx2, hcx3⟩ := hcc m hml
      gi_wp2
      refine hR.mono ?_
      rintro e W3 (⟨rfl, hJ3, hk3⟩ | ⟨rfl, hJx3⟩)
      · gi_wp2
        go_roundw
        case rel =>
          refine ⟨k + 1, by omega, ?_, ?_, (hKs _ _ hk3).trans hcs, hKb _ _ hk3 hcc⟩
          · simp [wrap64]; omega
          · rw [revs_take_succ hlt]
            have : (⟨zs.length - 1 - k, by omega⟩ : Fin zs.length) = ⟨m, hml⟩ := Fin.ext (by show zs.length - 1 - k = m; omega)
            rw [this]; exact hJ3
        case measure => simp [intOf]
      · gi_wp2
        refine bodyPost_ret (results_none rfl _ _ _) rfl ?_
        refine ⟨⟨_, rfl⟩, .inr ⟨_, ⟨k + 1, by omega, ?_⟩, hJx3⟩⟩
        rw [revs_take_succ hlt]
        congr 2
        exact Fin.ext (by show m = zs.length - 1 - k; omega)
    · obtain rfl : k = zs.length := by omega
      gi_wp2
      go_end0
      exact ⟨⟨_, rfl⟩, .inl ⟨_, by rw [List.take_of_length_le (by rw [revs_len]; exact Nat.le_refl _)], hJs⟩⟩
set_option maxRecDepth 100000 in
set_option maxHeartbeats 4000000 in
theorem back_ctrs_nil (l Bs bo cap : Nat) (A : Option Addr) (J : World → Prop) (W : World) (hBs : W.cell? ⟨Bs, bo, none⟩ = some (.slice A 0 cap)) (h0 : J W) :
    CallsIn Fence.wide 1 Try.prog 31 #[.func (.yield l) #[] #[], .pointer (some ⟨Bs, bo, none⟩)] W fun e W' => (∃ v, e = .returned v) ∧ J W' := by
  refine callsIn_of_wp Try.func31 rfl trivial ?_ rfl
  simp only [Try.ntmps31, List.size_toArray, List.length_cons, List.length_nil, Nat.reduceAdd, Nat.reduceSub, Array.replicate_succ, Array.replicate_zero, List.push_toArray, List.append_toArray, List.nil_append, List.cons_append]
  gi_wp2
  gi_loopw [3] (fun i wr => i = .int .i64 (-1) ∧ J wr) (fun _ _ => 0)
  case atStart => exact ⟨by simp [wrap64], h0⟩
  case round =>
    obtain ⟨rfl, hJs⟩ := hrel
    gi_wp2
    go_end0
    exact ⟨⟨_, rfl⟩, hJs⟩
end Go.Proofs.Ytajbbcnfohbieaa
