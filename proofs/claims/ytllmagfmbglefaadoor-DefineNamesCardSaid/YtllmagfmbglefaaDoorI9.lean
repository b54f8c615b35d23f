/- law10: rules, one, nodes; awake. -/
import Derived.Test.YtllmagfmbglefaaDoorI8
import Derived.Test.YtllmagfmbglefaaDoorPg
import Derived.Test.YtllmagfmbglefaaDoorPh
namespace Go.Proofs.YtllmagfmbglefaaDoor
open Go Go.RowKit
set_option maxRecDepth 20000

def okR (r : Rl) : Bool :=
  decide (vu r.pre < 1099511627776) && r.pre.all okT && decide (r.decls.length ≤ 1099511627776) && r.decls.all (fun d => decide (d.name ≠ negS) && decide (d.name ≠ addS) && decide (vu d.value < 1099511627776) && d.value.all okT) &&
  decide ((nmF r.pre).1.size ≤ 1099511627776) && decide ((wF (sd0 (nmF r.pre).1) r.decls).syms.length ≤ 65536) && decide ((wF (sd0 (nmF r.pre).1) r.decls).sums.length ≤ 65536) && decide ((wF (sd0 (nmF r.pre).1) r.decls).wts.length ≤ 65536) &&
  decide ((wF (sd0 (nmF r.pre).1) r.decls).range.length ≤ 65536) && decide ((wF (sd0 (nmF r.pre).1) r.decls).weights.length ≤ 65536) && decide ((wF (sd0 (nmF r.pre).1) r.decls).system ≠ y8)
theorem okR_ok {r : Rl} (h : okR r = true) : RlOk r := by
  simp only [okR, Bool.and_eq_true, decide_eq_true_eq, List.all_eq_true, okT] at h
  obtain ⟨⟨⟨⟨⟨⟨⟨⟨⟨⟨h1, h2⟩, h3⟩, h4⟩, h5⟩, h6⟩, h7⟩, h8⟩, h9⟩, h10⟩, h11⟩ := h
  exact ⟨h1, h2, h3, fun d hd => (h4 d hd).1.1, fun d hd => (h4 d hd).1.2, fun d hd => (h4 d hd).2, h5, h6, h7, h8, h9, h10, h11⟩
def shF (s : ByteArray) : List Rl := kG (wb s) 0
def w5 (s : ByteArray) : Bool := decide (s.size ≤ 65536) && (wb s).all (fun n => okT n && n.kids.all okT) && decide ((shF s).length ≤ 500)
set_option maxHeartbeats 1000000 in
theorem rules_ok (s : ByteArray) (h : w5 s = true) : uV Tryd.prog 35 [.val (.string s)] (.sl 4 ((shF s).map rlD)) := by
  simp only [w5, Bool.and_eq_true, decide_eq_true_eq, List.all_eq_true, okT] at h
  obtain ⟨⟨h1, h2⟩, h3⟩ := h
  refine u1 Tryd.func35 Tryd.ntmps35 rfl rfl rfl fun S w => ?_
  repeat (first | refine uf ?_ | refine ud ?_ | refine ug ?_ | (refine uk ?_; first | refine ul tab_ok rfl rfl rfl rfl (by first | exact trivial | omega | exact nl rfl) rfl ?_ | refine r_strd tab_ok rfl rfl rfl rfl rfl rfl (by omega) rfl rfl rfl ?_))
  refine um (show uV Tryd.prog 59 [.sl 1 (s.data.toList.map bD)] (.tup [.sl 4 ((shF s).map rlD), .val (.int .i64 0)]) from sheet_ok s.data.toList h1 (fun n hn => (h2 n hn).1) (fun n hn m hm => (h2 n hn).2 m hm) h3) call59 rfl rfl ⟨Sub.refl _, trivial⟩ rfl rfl rfl rfl ?_
  repeat (first | refine uf ?_ | refine uc ?_ | refine ud ?_ | refine un ?_ | refine ug ?_ | (refine uk ?_; first | refine ul tab_ok rfl rfl rfl rfl (by first | exact trivial | omega | exact nl rfl) rfl ?_) | refine vh (by simp) rfl rfl rfl ?_)
  exact Sub.refl _
def v4 (s : ByteArray) : Sd × Int :=
  match shF s with
  | [r] => defP r
  | _ => (zSd, 5)
set_option maxHeartbeats 1000000 in
theorem one10_ok (s : ByteArray) (h : w5 s = true) (h2 : (shF s).all okR = true) : uV Tryd.prog 22 [.val (.string s)] (.tup [dfA (v4 s).1, .val (.int .i64 (v4 s).2)]) := by
  refine u1 Tryd.func22 Tryd.ntmps22 rfl rfl rfl fun S w => ?_
  repeat (first | refine uf ?_ | refine ud ?_ | refine ug ?_ | (refine uk ?_; first | refine ul tab_ok rfl rfl rfl rfl (by first | exact trivial | omega | exact nl rfl) rfl ?_ | refine vI tab_ok rfl rfl rfl rfl rfl ?_))
  refine um (rules_ok s h) call35 rfl rfl ⟨Sub.refl _, trivial⟩ rfl rfl rfl rfl ?_
  rw [v4]
  obtain ⟨l, hl⟩ : ∃ l, l = shF s := ⟨_, rfl⟩
  rw [← hl] at h2 ⊢
  have hlm : (l.map rlD).length = l.length := List.length_map _
  clear hl
  match l, h2, hlm with
  | [], _, _ =>
    repeat (first | refine uf ?_ | refine uc ?_ | refine ud ?_ | refine un ?_ | refine ur ?_ | refine ug ?_ | (refine uk ?_; first | refine vf tab_ok rfl rfl rfl rfl rfl rfl rfl ?_ | refine ul tab_ok rfl rfl rfl rfl (by first | exact trivial | omega | exact nl rfl) rfl ?_ | refine u3 tab_ok rfl rfl rfl rfl ?_ | refine vv tab_ok rfl rfl rfl rfl rfl rfl ?_) | refine uA rfl ?_)
    all_goals exact xa tab_ok (by simp) rfl rfl rfl rfl rfl rfl rfl (Sub.agg (by repeat' first | exact trivial | exact Sub.refl _ | exact Sub.nil _ | refine Sub.agg ?_ | apply And.intro)) (Sub.refl _)
  | a :: b :: r, _, _ =>
    have hne : ¬ (((a :: b :: r).length : Nat) : Int) = 1 := by simp only [List.length_cons]; omega
    repeat (first | refine uf ?_ | refine uc ?_ | refine ud ?_ | refine un ?_ | refine ur ?_ | refine ug ?_ | (refine uk ?_; first | refine vf tab_ok rfl rfl rfl rfl rfl rfl rfl ?_ | refine ul tab_ok rfl rfl rfl rfl (by first | exact trivial | omega | exact nl rfl) rfl ?_ | refine u3 tab_ok rfl rfl rfl rfl ?_ | refine vv tab_ok rfl rfl rfl rfl rfl rfl ?_) | refine uA rfl ?_)
    all_goals exact xa tab_ok (by simp) rfl rfl rfl rfl rfl rfl rfl (Sub.agg (by repeat' first | exact trivial | exact Sub.refl _ | exact Sub.nil _ | refine Sub.agg ?_ | apply And.intro)) (Sub.refl _)
  | [r], h2, _ =>
    have h4 : okR r = true := by simpa using h2
    repeat (first | refine uf ?_ | refine uc ?_ | refine ud ?_ | refine uq ?_ | refine ug ?_ | (refine uk ?_; first | refine vf tab_ok rfl rfl rfl rfl rfl rfl rfl ?_ | refine ul tab_ok rfl rfl rfl rfl (by first | exact trivial | omega | exact nl rfl) rfl ?_ | refine uO tab_ok rfl rfl rfl rfl rfl rfl rfl (by decide) rfl rfl rfl ?_) | refine uF rfl ?_)
    refine um (dparse_ok r (okR_ok h4)) call36 rfl rfl ⟨Sub.refl _, trivial⟩ rfl rfl rfl rfl ?_
    repeat (first | refine uc ?_ | refine un ?_ | refine ug ?_ | (refine uk ?_; first | refine ul tab_ok rfl rfl rfl rfl (by first | exact trivial | omega | exact nl rfl) rfl ?_ | refine u3 tab_ok rfl rfl rfl rfl ?_))
    all_goals exact xa tab_ok (by simp) rfl rfl rfl rfl rfl rfl rfl (Sub.refl _) (Sub.refl _)
set_option maxHeartbeats 1000000 in
theorem uR (s : ByteArray) (hs : s.size ≤ 549755813888) : uV Tryd.prog 25 [.val (.string s)] (.sl 7 ((wb s).map nF)) := by
  refine u1 Tryd.func25 Tryd.ntmps25 rfl rfl rfl fun S w => ?_
  repeat (first | refine uf ?_ | refine ud ?_ | refine ug ?_ | (refine uk ?_; first | refine ul tab_ok rfl rfl rfl rfl (by first | exact trivial | omega | exact nl rfl) rfl ?_ | refine r_strd tab_ok rfl rfl rfl rfl rfl rfl (by omega) rfl rfl rfl ?_))
  refine um (refRead s.data.toList (by have : s.data.toList.length = s.size := rfl; omega)) call48 rfl rfl ⟨Sub.refl _, trivial⟩ rfl rfl rfl rfl ?_
  have hl := zU s
  refine um (tokens_ok (xX s) (by omega)) call47 rfl rfl ⟨Sub.refl _, trivial⟩ rfl rfl rfl rfl ?_
  have hl2 := toks_len s
  refine um (nodes_ok (toks s) (by omega)) call46 rfl rfl ⟨Sub.refl _, trivial⟩ rfl rfl rfl rfl ?_
  repeat (first | refine uc ?_ | refine un ?_ | refine ug ?_ | (refine uk ?_; first | refine ul tab_ok rfl rfl rfl rfl (by first | exact trivial | omega | exact nl rfl) rfl ?_) | refine vh (by simp) rfl rfl rfl ?_)
  exact Sub.refl _
def vb1S : ByteArray := ⟨#[64, 99, 111, 117, 110, 116, 101, 114, 45, 115, 116, 121, 108, 101, 32, 120, 32, 123, 32, 115, 121, 115, 116, 101, 109, 58, 32, 102, 105, 120, 101, 100, 32, 51, 59, 32, 115, 121, 109, 98, 111, 108, 115, 58, 32, 97, 32, 39, 98, 39, 59, 32, 114, 97, 110, 103, 101, 58, 32, 49, 32, 50, 44, 32, 105, 110, 102, 105, 110, 105, 116, 101, 32, 45, 53, 59, 32, 112, 97, 100, 58, 32, 39, 48, 39, 32, 52, 59, 32, 115, 117, 102, 102, 105, 120, 58, 32, 39, 41, 39, 32, 125]⟩
def vb2S : ByteArray := ⟨#[64, 99, 111, 117, 110, 116, 101, 114, 45, 115, 116, 121, 108, 101, 32, 100, 101, 99, 105, 109, 97, 108, 32, 123, 32, 115, 121, 109, 98, 111, 108, 115, 58, 32, 97, 32, 125]⟩
def vb3S : ByteArray := ⟨#[97, 32, 123, 32, 98, 58, 32, 99, 32, 125]⟩
def vb4S : ByteArray := ⟨#[64, 99, 111, 117, 110, 116, 101, 114, 45, 115, 116, 121, 108, 101, 32, 89, 32, 123, 32, 115, 121, 115, 116, 101, 109, 58, 32, 101, 120, 116, 101, 110, 100, 115, 32, 68, 105, 115, 99, 32, 125]⟩
def vb1V : Sd := { sd0 ⟨#[120]⟩ with system := ⟨#[102, 105, 120, 101, 100]⟩, first := 3, symbols := [⟨#[97]⟩, ⟨#[98]⟩], syms := [⟨#[97]⟩, ⟨#[98]⟩], symbolic := true, auto := false, range := [(1, 2), (-2147483648, -5)], pad := 4, padSign := ⟨#[48]⟩, suf := ⟨#[41]⟩, said := 28 }
def vb4V : Sd := { sd0 ⟨#[89]⟩ with system := ⟨#[101, 120, 116, 101, 110, 100, 115]⟩, first := 1, ext := ⟨#[100, 105, 115, 99]⟩ }
theorem vb1 : w5 vb1S = true ∧ (shF vb1S).all okR = true ∧ v4 vb1S = (vb1V, 0) := ⟨by kernel_rfl, by kernel_rfl, by kernel_rfl⟩
theorem vb2 : w5 vb2S = true ∧ (shF vb2S).all okR = true ∧ v4 vb2S = (zSd, 2) := ⟨by kernel_rfl, by kernel_rfl, by kernel_rfl⟩
theorem vb3 : w5 vb3S = true ∧ (shF vb3S).all okR = true ∧ v4 vb3S = (zSd, 1) := ⟨by kernel_rfl, by kernel_rfl, by kernel_rfl⟩
theorem vb4 : w5 vb4S = true ∧ (shF vb4S).all okR = true ∧ v4 vb4S = (vb4V, 0) := ⟨by kernel_rfl, by kernel_rfl, by kernel_rfl⟩
theorem vF {s : ByteArray} {v : Sd} {e : Int} (h : w5 s = true ∧ (shF s).all okR = true ∧ v4 s = (v, e)) : uV Tryd.prog 22 [.val (.string s)] (.tup [dfA v, .val (.int .i64 e)]) := by
  have := one10_ok s h.1 h.2.1
  rwa [h.2.2] at this
end Go.Proofs.YtllmagfmbglefaaDoor
