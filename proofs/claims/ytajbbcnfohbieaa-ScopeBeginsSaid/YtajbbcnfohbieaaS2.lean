/- Scope: what is lent to calls; Clone. -/
import Derived.Test.YtajbbcnfohbieaaH2
namespace Go.Proofs.Ytajbbcnfohbieaa
open Go Go.RowKit

mutual
/-- Known of a value without a word on memory. -/
def AV.bare : AV → Bool
  | .any => true
  | .val _ => true
  | .ub _ _ => true
  | .tup l => AV.bares l
  | .agg l => AV.bares l
  | _ => false
def AV.bares : List AV → Bool
  | [] => true
  | x :: r => x.bare && AV.bares r
end
section
variable {M M' : List AB} {β β' : Env} {w w' : World} {imm imm' : Nat → Prop}
mutual
theorem bare_sat : ∀ (x : AV) (v : Value), x.bare = true → AVsat M β w imm x v → AVsat M' β' w' imm' x v
  | .any, _, _, _ => trivial
  | .val _, _, _, h => h
  | .ub _ _, _, _, h => h
  | .tup l, _, hb, ⟨cs, h1, h2⟩ => ⟨cs, h1, bares_sat l _ hb h2⟩
  | .agg l, _, hb, ⟨cs, h1, h2⟩ => ⟨cs, h1, bares_sat l _ hb h2⟩
  | .sl _ _, _, h, _ => by cases h
  | .ptr _ _, _, h, _ => by cases h
  | .row _ _, _, h, _ => by cases h
  | .eptr _ _ _ _, _, h, _ => by cases h
  | .dptr _, _, h, _ => by cases h
  | .cnd _ _, _, h, _ => by cases h
  | .cl _ _, _, h, _ => by cases h
  | .alt _ _, _, h, _ => by cases h
  | .pr _, _, h, _ => by cases h
  | .vw _ _ _, _, h, _ => by cases h
theorem bares_sat : ∀ (l : List AV) (vs : List Value), AV.bares l = true → AVsats M β w imm l vs → AVsats M' β' w' imm' l vs
  | [], _, _, h => h
  | x :: r, _, hb, ⟨v, s, h1, h2, h3⟩ => by
    rw [AV.bares, Bool.and_eq_true] at hb
    exact ⟨v, s, h1, bare_sat x v hb.1 h2, bares_sat r s hb.2 h3⟩
end
end
/-- What is handed to a call that takes data: data, or an own row as it is. -/
def Lends (M : List AB) : List AV → List AV → Prop
  | [], [] => True
  | x :: xs, y :: ys => ((x = y ∧ x.free = true) ∨ (∃ i ver e k es, x = .row i ver ∧ y = .sl k es ∧ M[i]? = some (.row ver e k es))) ∧ Lends M xs ys
  | _, _ => False
theorem lend_row {S : Nat → Prop} {B : Nat} {M : List AB} {β : Env} {w : World} (hm : MemSat S B M β w) {i ver e k : Nat} {es : List D} (hM : M[i]? = some (.row ver e k es)) {v : Value} (h : AVsat M β w (immOf S B M β w) (.row i ver) v) :
    DenC w (fun b => b < w.heap.size) (.sl k es) [v] := by
  obtain ⟨hv, hn⟩ := row_val hm hM h
  obtain ⟨hw, he⟩ := hm.ent i _ hM
  subst hv
  rcases he with ⟨hb, rfl⟩ | ⟨g, cap, cs, hb, hr, h1, h2, h3, h4⟩
  · rw [hb]
    exact ⟨none, 0, 0, rfl, rfl, Nat.le_refl _, Nat.zero_le _, hw, fun h => absurd h (by omega)⟩
  · rw [hb]
    refine ⟨some ⟨g, 0, none⟩, es.length, cap, rfl, rfl, h1, h2, hw, fun _ => ⟨g, 0, _, rfl, ?_, DenCs.mono (fun b hb => hb.2.1) (fun _ _ _ => rfl) _ _ h4, fun j u hu => ?_⟩⟩
    · obtain ⟨fz, hg, _⟩ := hr; exact heap_lt hg
    · rw [Nat.zero_add, hr.cell]
      rw [List.getElem?_take] at hu
      split at hu
      · rw [← Array.getElem?_toList]; exact hu
      · cases hu
theorem lends_sat {S : Nat → Prop} {B : Nat} {M : List AB} {β : Env} {w : World} (hm : MemSat S B M β w) : ∀ {xs ys : List AV} {vs : List Value}, Lends M xs ys → AVsats M β w (immOf S B M β w) xs vs → AVsats [] noE w (fun b => b < w.heap.size) ys vs
  | [], [], _, _, h => h
  | x :: xs, y :: ys, _, ⟨h1, h2⟩, ⟨v, r, h3, h4, h5⟩ => by
    refine ⟨v, r, h3, ?_, lends_sat hm h2 h5⟩
    rcases h1 with ⟨rfl, hf⟩ | ⟨i, ver, e, k, es, rfl, rfl, hM⟩
    · exact AVsat.free_ (fun b hb => hb.2.1) (fun _ _ _ => rfl) _ _ hf h4
    · exact lend_row hm hM h4
  | [], _ :: _, _, h, _ => h.elim
  | _ :: _, [], _, h, _ => h.elim
/-- A call that takes data may be lent own rows, where what it answers is no memory. -/
theorem mcalls_lend {P : Program} {f : FuncId} {M0 : List AB} {cargs xs : List AV} {res : AV} (hc : PCalls P f cargs res) (hl : Lends M0 xs cargs) (hb : res.bare = true) : MCalls P f M0 xs M0 res := by
  intro S B β w vs hm hvs
  refine (hc (fun b => b < w.heap.size) w vs (fun _ h => h) (lends_sat hm hl hvs)).mono fun e w' ⟨v, he, hbe, hv⟩ => ?_
  exact ⟨v, β, he, Ev.of_below hbe, hm.quiet hbe, bare_sat _ _ hb hv⟩

theorem clone_ok (l : List Ctr) (hl : l.length ≤ 1000000) : MCalls Try.prog 20 [] [.sl 4 (l.map cD)] [.row 0 38 4 (l.map cD)] (.row 0 0) := by
  refine mcalls_ofn Try.func20 Try.ntmps20 rfl rfl rfl 1 (by decide) fun S w β => ?_
  have hlm : (l.map cD).length = l.length := List.length_map _
  repeat (first
    | refine awp_seq ?_
    | refine thenA_normal ?_
    | refine a_region ?_
    | refine r_done ?_
    | (refine r_id ?_; first
      | refine r_ev tab_ok rfl rfl rfl rfl (by first | exact trivial | exact ⟨by omega, by omega⟩ | omega | exact ⟨by omega, by omega, by omega, by omega⟩ | exact Nat.le_of_ble_eq_true rfl) rfl ?_))
  refine awp_cond_u rfl (fun he => ?_) (fun _ => ?_)
  · have : l = [] := by simpa using he
    subst this
    repeat (first
      | refine awp_seq ?_
      | refine thenA_normal ?_
      | refine a_region ?_
      | refine r_done ?_
      | (refine r_id ?_; first
        | refine r_ev tab_ok rfl rfl rfl rfl (by first | exact trivial | exact ⟨by omega, by omega⟩ | omega | exact ⟨by omega, by omega, by omega, by omega⟩ | exact Nat.le_of_ble_eq_true rfl) rfl ?_))
    refine awp_fits (s' := ⟨[.row 0 38 4 []], [(2, .row 0 0)]⟩) (fits_conv (by repeat' first | exact trivial | exact rfl | (rw [List.map_append]; first | done | rfl) | exact c_sub rfl (Sub.refl _) rfl | exact c_nil rfl rfl | exact c_thaw rfl rfl rfl | exact c_row rfl rfl rfl | exact c_row rfl rfl (by rw [List.map_append]; first | done | rfl) | exact c_ptr rfl rfl rfl rfl | exact Or.inl ⟨c_sub rfl (Sub.refl _) rfl, c_ptr rfl rfl rfl rfl⟩ | exact c_alt rfl rfl rfl rfl | exact c_ro rfl rfl | exact c_eo rfl rfl | exact c_sub rfl (Sub.altl _ _) rfl | exact c_sub rfl (Sub.nil _) rfl | refine ⟨_, _, rfl, ?_, ?_⟩ | apply And.intro) ⟨c_nil rfl rfl, trivial⟩) ?_
    repeat (first
      | refine awp_ret ?_
      | refine thenA_ret ?_
      | refine retM1 (by first | exact .inl rfl | exact .inr rfl) rfl rfl rfl rfl rfl ?_)
    exact Sub.refl _
  · repeat (first
      | refine awp_seq ?_
      | refine thenA_normal ?_
      | refine a_region ?_
      | refine awp_skip ?_
      | refine r_done ?_
      | (refine r_id ?_; first
        | refine r_ev tab_ok rfl rfl rfl rfl (by first | exact trivial | exact ⟨by omega, by omega⟩ | omega | exact ⟨by omega, by omega, by omega, by omega⟩ | exact Nat.le_of_ble_eq_true rfl) rfl ?_
        | refine r_built0 tab_ok rfl rfl rfl rfl rfl rfl rfl ?_
        | refine r_append tab_ok rfl rfl rfl rfl rfl rfl rfl rfl rfl (by first | omega | (simp; omega)) rfl ?_))
    refine awp_fits (s' := ⟨[.row 0 38 4 (l.map cD)], [(2, .row 0 0)]⟩) (fits_conv (by repeat' first | exact trivial | exact rfl | (rw [List.map_append]; first | done | rfl) | exact c_sub rfl (Sub.refl _) rfl | exact c_nil rfl rfl | exact c_thaw rfl rfl rfl | exact c_row rfl rfl rfl | exact c_row rfl rfl (by rw [List.map_append]; first | done | rfl) | exact c_ptr rfl rfl rfl rfl | exact Or.inl ⟨c_sub rfl (Sub.refl _) rfl, c_ptr rfl rfl rfl rfl⟩ | exact c_alt rfl rfl rfl rfl | exact c_ro rfl rfl | exact c_eo rfl rfl | exact c_sub rfl (Sub.altl _ _) rfl | exact c_sub rfl (Sub.nil _) rfl | refine ⟨_, _, rfl, ?_, ?_⟩ | apply And.intro) ⟨c_row rfl rfl rfl, trivial⟩) ?_
    repeat (first
      | refine awp_ret ?_
      | refine retM1 (by first | exact .inl rfl | exact .inr rfl) rfl rfl rfl rfl rfl ?_)
    exact Sub.refl _
end Go.Proofs.Ytajbbcnfohbieaa
