/- The engine, part P: how given arguments read as data, by their types; the row's frame. -/
import Derived.Test.YtiolnmfaeenlmaaGreatDoorEj
import Derived.ProofKit
import Derived.Carry
import Derived.OpenShut
namespace Go.Proofs.YtiolnmfaeenlmaaGreatDoor
open Go Go.RowKit Go.WideShapes Go.ChangeShapes

def DTl (R : Nat → D → Prop) : List Nat → List D → Prop
  | [], ds => ds = []
  | t :: ts, ds => ∃ x r, ds = x :: r ∧ R t x ∧ DTl R ts r
def DTk (R : Nat → D → Prop) (sz : Nat → Nat) : TK → D → Prop
  | .bool, d => ∃ b, d = .val (.bool b)
  | .int k, d => ∃ i, d = .val (.int k i) ∧ (Lit.int k i).wf = true
  | .str, d => ∃ s, d = .val (.string s) ∧ s.size ≤ maxLen
  | .slice e, d => ∃ es, d = .sl (sz e) es ∧ es.length ≤ maxLen ∧ ∀ x ∈ es, R e x
  | .struct fs, d => ∃ ds, d = .ag ds ∧ DTl R (fs.map (·.2)) ds
  | .array n e, d => ∃ ds, d = .ag ds ∧ DTl R (List.replicate n e) ds
  | _, _ => False
def tsize (tab : List (Nat × TE)) (t : Nat) : Nat := match tget tab t with | some te => te.size | none => 0
/-- A datum of a type. -/
def DT (tab : List (Nat × TE)) : Nat → Nat → D → Prop
  | 0, _, _ => False
  | n + 1, t, d => match tget tab t with
    | some te => DTk (DT tab n) (tsize tab) te.kind d
    | none => False

def offs (tab : List (Nat × TE)) : Nat → List (Nat × Nat) → Nat → Bool
  | o, [], size => Nat.beq o size
  | o, (f, t) :: r, size => Nat.beq f o && offs tab (o + tsize tab t) r size
/-- An array's places. -/
def arrFs (tab : List (Nat × TE)) (n e : Nat) : List (Nat × Nat) := (List.range n).map fun i => (i * tsize tab e, e)
def dataK (D : Nat → Bool) (tab : List (Nat × TE)) (size : Nat) : TK → Bool
  | .bool | .int _ | .str => true
  | .slice e => D e && Nat.blt 0 (tsize tab e) && (tget tab e).isSome
  | .struct fs => offs tab 0 fs size && fs.all (fun p => D p.2 && (tget tab p.2).isSome)
  | .array n e => offs tab 0 (arrFs tab n e) size && D e && (tget tab e).isSome
  | _ => false
def dataTy (tab : List (Nat × TE)) : Nat → Nat → Bool
  | 0, _ => false
  | n + 1, t => match tget tab t with
    | some te => dataK (dataTy tab n) tab te.size te.kind
    | none => false

section
variable {P : Program} {tab : List (Nat × TE)} {H : Type} {enc : TypeId × Value → H} {w : World} {base : Nat} {spare : Nat → Bool} {held : Bool}
theorem cellsOf_tab (ht : TyTab P tab) {t : Nat} {te : TE} (h : tget tab t = some te) : P.cellsOf t = tsize tab t := by
  obtain ⟨d, i, z, _, _, hi, hs, _⟩ := teOf_spec (ht.get h)
  simp [Program.cellsOf, hi, tsize, h, hs]
theorem kindOf_slice {d : TypeDesc} {e : Nat} (h : kindOf d = .slice e) : d = .slice e := by cases d <;> simp [kindOf] at h; rw [h]
theorem kindOf_int {d : TypeDesc} {k : IntKind} (h : kindOf d = .int k) : d = .int k := by cases d <;> simp [kindOf] at h; rw [h]
theorem kindOf_bool {d : TypeDesc} (h : kindOf d = .bool) : d = .bool := by cases d <;> simp [kindOf] at h; rfl
theorem kindOf_str {d : TypeDesc} (h : kindOf d = .str) : d = .string := by cases d <;> simp [kindOf] at h; rfl
theorem kindOf_struct {d : TypeDesc} {fs : List (Nat × Nat)} (h : kindOf d = .struct fs) : ∃ gs, d = .struct gs ∧ fs = gs.toList.map fun f => (f.offset, f.type) := by
  cases d <;> simp [kindOf] at h; exact ⟨_, rfl, h.symm⟩

theorem kindOf_array {d : TypeDesc} {n e : Nat} (h : kindOf d = .array n e) : d = .array n e := by cases d <;> simp [kindOf] at h; obtain ⟨rfl, rfl⟩ := h; rfl
theorem addNx (g off j : Nat) : (⟨g, off, none⟩ : Addr).add j = ⟨g, off + j, none⟩ := by unfold Addr.add; split <;> simp_all
theorem open_row {g off k : Nat} {imm : Nat → Prop} {R : D → Prop} : ∀ (n : Nat), (∀ i, i < n → ∃ cs d, cs.length = k ∧ (∀ j, j < k → w.cell? ⟨g, off + (i * k + j), none⟩ = cs[j]?) ∧ R d ∧ DenC w imm d cs) →
    ∃ es rows, es.length = n ∧ DenCs w imm es rows ∧ (∀ x ∈ es, R x) ∧ AllW k es ∧ rows.length = n * k ∧ ∀ (j : Nat) (u : Value), rows[j]? = some u → w.cell? ⟨g, off + j, none⟩ = some u
  | 0, _ => ⟨[], [], rfl, rfl, by simp, by simp [AllW], by simp, by simp⟩
  | n + 1, h => by
    obtain ⟨es, rows, h1, h2, h3, h4, h5, h6⟩ := open_row n fun i hi => h i (by omega)
    obtain ⟨cs, d, k1, k2, k3, k4⟩ := h n (by omega)
    refine ⟨es ++ [d], rows ++ cs, by simp [h1], h2.append ⟨cs, [], by simp, k4, rfl⟩, fun x hx => ?_, fun x hx => ?_, by simp [h5, k1, Nat.add_mul], fun j u hj => ?_⟩
    · simp at hx
      rcases hx with hx | rfl
      · exact h3 x hx
      · exact k3
    · simp at hx
      rcases hx with hx | rfl
      · exact h4 x hx
      · rw [← k1]; exact (DenC.len _ _ k4).symm
    · rw [List.getElem?_append] at hj
      split at hj
      · exact h6 j u hj
      · rename_i hge
        rw [h5] at hj hge
        have hjk : j - n * k < k := by
          have := (List.getElem?_eq_some_iff.1 hj).1
          omega
        have := k2 (j - n * k) hjk
        rw [hj] at this
        rw [← this]
        congr 2
        omega

theorem open_fields {R : Nat → D → Prop} {imm : Nat → Prop} (ht : TyTab P tab) : ∀ (fs : List (Nat × Nat)) (o size : Nat) (cs : List Value), offs tab o fs size = true → (fs.all fun p => (tget tab p.2).isSome) = true → cs.length = size →
    (∀ p ∈ fs, ∃ d, R p.2 d ∧ DenC w imm d ((cs.drop p.1).take (P.cellsOf p.2))) → ∃ ds, DTl R (fs.map (·.2)) ds ∧ DenCs w imm ds (cs.drop o)
  | [], o, size, cs, ho, _, hl, _ => by
    have := Nat.eq_of_beq_eq_true ho
    exact ⟨[], rfl, by rw [List.drop_eq_nil_of_le (by omega)]; rfl⟩
  | (f, t) :: r, o, size, cs, ho, hs, hl, h => by
    simp only [offs, Bool.and_eq_true] at ho
    have hf := Nat.eq_of_beq_eq_true ho.1
    subst hf
    simp only [List.all_cons, Bool.and_eq_true] at hs
    obtain ⟨d, h1, h2⟩ := h (f, t) (by simp)
    obtain ⟨ds, h3, h4⟩ := open_fields ht r _ _ cs ho.2 hs.2 hl fun p hp => h p (by simp [hp])
    obtain ⟨te, hte⟩ := Option.isSome_iff_exists.1 hs.1
    rw [cellsOf_tab ht hte] at h2
    refine ⟨d :: ds, ⟨d, ds, rfl, h1, h3⟩, _, _, ?_, h2, h4⟩
    rw [← List.drop_drop, List.take_append_drop]

theorem open_data (ht : TyTab P tab) : ∀ (n t fuel : Nat) (cs : List Value) (x : DataW H × List MemPlace), dataTy tab n t = true → DataW.trod enc P w base spare held fuel t cs = some x →
    ∃ d, DT tab n t d ∧ DenC w (fun b => b < w.heap.size) d cs
  | 0, _, _, _, _, h, _ => by cases h
  | n + 1, t, fuel, cs, x, h, hx => by
    unfold dataTy at h
    split at h
    · rename_i te hte
      obtain ⟨dd, i, z, hd, hk, hi, hsz, _⟩ := teOf_spec (ht.get hte)
      have key : ∃ d, DTk (DT tab n) (tsize tab) te.kind d ∧ DenC w (fun b => b < w.heap.size) d cs := by
        cases hkk : te.kind with
        | bool =>
          rw [hkk] at hk
          rw [kindOf_bool hk] at hd
          obtain ⟨b, rfl, _⟩ := DataW.trod_bool hd hx
          exact ⟨_, ⟨b, rfl⟩, rfl, rfl⟩
        | int k =>
          rw [hkk] at hk
          rw [kindOf_int hk] at hd
          obtain ⟨b, rfl, _, hw⟩ := DataW.trod_int hd hx
          exact ⟨_, ⟨b, rfl, hw⟩, rfl, rfl⟩
        | str =>
          rw [hkk] at hk
          rw [kindOf_str hk] at hd
          obtain ⟨b, rfl, _, hw⟩ := DataW.trod_string hd hx
          exact ⟨_, ⟨b, rfl, hw⟩, rfl, rfl⟩
        | slice e =>
          rw [hkk] at hk h
          rw [kindOf_slice hk] at hd
          simp only [dataK, Bool.and_eq_true] at h
          obtain ⟨⟨h1, h2⟩, h3⟩ := h
          obtain ⟨te', hte'⟩ := Option.isSome_iff_exists.1 h3
          have hc := cellsOf_tab ht hte'
          have h2' : 0 < tsize tab e := by simpa [Nat.blt_eq] using h2
          rcases DataW.trod_slice hd hx with ⟨rfl, _⟩ | ⟨a, len, cap, elems, rest, m, rfl, rfl, _, hb, hlc, hcm, hlen, hel, _⟩
          · exact ⟨.sl (tsize tab e) [], ⟨[], rfl, by simp, by simp⟩, none, 0, 0, rfl, rfl, Nat.le_refl _, Nat.zero_le _, by simp [AllW], fun h => absurd h (by simp)⟩
          · rw [hc] at hel
            have hcell : ∀ i, i < len → ∃ cs d, cs.length = tsize tab e ∧ (∀ j, j < tsize tab e → w.cell? ((a.add (i * tsize tab e)).add j) = cs[j]?) ∧ DT tab n e d ∧ DenC w (fun b => b < w.heap.size) d cs := by
              intro i hi
              have h1' := hel i hi
              have hsome : elems[i]? = some (elems[i]'(by omega)) := List.getElem?_eq_getElem (by omega)
              rw [hsome] at h1'
              obtain ⟨cs', hcs, htr⟩ := Option.bind_eq_some_iff.1 h1'
              obtain ⟨_, hcl, hat⟩ := World.cells?_some hcs
              obtain ⟨d, hd1, hd2⟩ := open_data ht n e m cs' _ h1 htr
              exact ⟨cs', d, hcl, hat, hd1, hd2⟩
            rcases Nat.eq_zero_or_pos len with h0 | h0
            · subst h0
              exact ⟨.sl (tsize tab e) [], ⟨[], rfl, by simp, by simp⟩, some a, 0, cap, rfl, rfl, hlc, hcm, by simp [AllW], fun h => absurd h (by simp)⟩
            · have hsp : a.spot = none ∧ a.block < w.heap.size := by
                obtain ⟨cs', d, k1, k2, _⟩ := hcell 0 h0
                have h0' := k2 0 h2'
                have hs0 : cs'[0]? = some (cs'[0]'(by omega)) := List.getElem?_eq_getElem (by omega)
                rw [hs0] at h0'
                unfold World.cell? at h0'
                have hblk : ((a.add (0 * tsize tab e)).add 0).block = a.block := by simp only [Addr.add]; split <;> split <;> rfl
                rw [hblk] at h0'
                split at h0'
                · rename_i c _ _ hh
                  refine ⟨?_, by simpa using (Array.getElem?_eq_some_iff.1 hh).1⟩
                  cases hsp : a.spot with
                  | none => rfl
                  | some q =>
                    exfalso
                    split at h0'
                    · cases h0'
                    · rename_i hne
                      apply hne
                      simp only [Addr.add]
                      split <;> split <;> simp_all
                · cases h0'
              obtain ⟨g, off, sp⟩ := a
              obtain ⟨hsp1, hsp2⟩ := hsp
              dsimp only at hsp1 hsp2
              subst hsp1
              obtain ⟨es, rows, k1, k2, k3, k4, k5, k6⟩ := open_row (w := w) (g := g) (off := off) (k := tsize tab e) (imm := fun b => b < w.heap.size) (R := DT tab n e) len fun i hi => by
                obtain ⟨cs', d, c1, c2, c3, c4⟩ := hcell i hi
                refine ⟨cs', d, c1, fun j hj => ?_, c3, c4⟩
                rw [← c2 j hj, addNx, addNx, Nat.add_assoc]
              exact ⟨.sl (tsize tab e) es, ⟨es, rfl, by omega, k3⟩, some ⟨g, off, none⟩, len, cap, rfl, k1.symm, hlc, hcm, k4, fun _ => ⟨g, off, rows, rfl, hsp2, k2, k6⟩⟩
        | struct fs =>
          rw [hkk] at hk h
          obtain ⟨gs, rfl, rfl⟩ := kindOf_struct hk
          simp only [dataK, Bool.and_eq_true, List.all_eq_true] at h
          obtain ⟨h1, h2⟩ := h
          obtain ⟨xs, m, rfl, _, hcl, hxl, hf⟩ := DataW.trod_struct hd hx
          have hcs : cs.length = te.size := by rw [hcl, cellsOf_tab ht hte, tsize, hte]
          obtain ⟨ds, k1, k2⟩ := open_fields (R := DT tab n) (imm := fun b => b < w.heap.size) ht _ 0 te.size cs h1 (by
            rw [List.all_eq_true]; exact fun p hp => (h2 p hp).2) hcs fun p hp => by
              rw [List.mem_map] at hp
              obtain ⟨f, hfm, rfl⟩ := hp
              obtain ⟨i, hi⟩ := List.getElem?_of_mem hfm
              have hi' : gs[i]? = some f := by simpa using hi
              have h3 := hf i f hi'
              have hlt : i < xs.length := by rw [hxl]; exact (Array.getElem?_eq_some_iff.1 hi').1
              rw [List.getElem?_eq_getElem hlt] at h3
              exact open_data ht n f.type m _ _ (h2 _ (List.mem_map_of_mem hfm)).1 h3
          exact ⟨.ag ds, ⟨ds, rfl, k1⟩, by simpa [DenC] using k2⟩
        | array n' e =>
          rw [hkk] at hk h
          rw [kindOf_array hk] at hd
          simp only [dataK, Bool.and_eq_true] at h
          obtain ⟨⟨h1, h2⟩, h3⟩ := h
          obtain ⟨te', hte'⟩ := Option.isSome_iff_exists.1 h3
          have hc := cellsOf_tab ht hte'
          obtain ⟨xs, m, rfl, _, hcl, hxl, hf⟩ := DataW.trod_array hd hx
          have hcs : cs.length = te.size := by rw [hcl, cellsOf_tab ht hte, tsize, hte]
          obtain ⟨ds, k1, k2⟩ := open_fields (R := DT tab n) (imm := fun b => b < w.heap.size) ht (arrFs tab n' e) 0 te.size cs h1 (by
            rw [List.all_eq_true]
            intro p hp
            obtain ⟨i, _, rfl⟩ := List.mem_map.1 hp
            exact h3) hcs fun p hp => by
              obtain ⟨i, hi, rfl⟩ := List.mem_map.1 hp
              have hi' : i < n' := List.mem_range.1 hi
              have h4 := hf i hi'
              rw [List.getElem?_eq_getElem (by omega), hc] at h4
              dsimp only
              rw [hc]
              exact open_data ht n e m _ _ h2 h4
          have e1 : (arrFs tab n' e).map (·.2) = List.replicate n' e := by
            rw [arrFs, List.map_map]
            apply List.ext_getElem
            · simp
            · intro i h1 h2
              simp
          rw [e1] at k1
          exact ⟨.ag ds, ⟨ds, rfl, k1⟩, by simpa [DenC] using k2⟩
        | _ => rw [hkk] at h; cases h
      obtain ⟨d, k1, k2⟩ := key
      exact ⟨d, by unfold DT; rw [hte]; exact k1, k2⟩
    · cases h

/-- An argument, as a slot holds it. -/
theorem open_arg (ht : TyTab P tab) {n t : Nat} {v : Value} {d : DataW H} {ps : List MemPlace} {r : Reach} {b0 : Nat} (h : dataTy tab n t = true) (hok : Value.okWide P w r b0 t v) (hd : DataW.Trod enc P w base spare held t v d ps) :
    ∃ x, DT tab n t x ∧ AVsat [] noE w (fun b => b < w.heap.size) x.av v := by
  obtain ⟨fuel, hf⟩ := hd
  obtain ⟨x, h1, h2⟩ := open_data ht n t fuel _ _ h hf
  refine ⟨x, h1, ?_⟩
  cases n with
  | zero => cases h1
  | succ n =>
    unfold DT at h1
    split at h1
    · rename_i te hte
      obtain ⟨dd, i, z, hu, hk, _⟩ := teOf_spec (ht.get hte)
      have one : ∀ u : Value, v.cells.toList = [u] → te.kind.agg = false → v = u := by
        intro u hu' hagg
        cases v with
        | agg cs =>
          exfalso
          rw [← hk] at hagg
          unfold Value.okWide Cell.okWide Cell.ok at hok
          rw [hu] at hok
          clear hk h1 h2 hf hu hu' h
          cases dd <;> first | exact hok.elim | cases hagg | simp_all
        | _ => simpa [Value.cells] using hu'
      cases hkk : te.kind with
      | bool =>
        rw [hkk] at h1
        obtain ⟨b, rfl⟩ := h1
        exact one _ h2.1 (by rw [hkk]; rfl)
      | int k =>
        rw [hkk] at h1
        obtain ⟨b, rfl, _⟩ := h1
        exact one _ h2.1 (by rw [hkk]; rfl)
      | str =>
        rw [hkk] at h1
        obtain ⟨b, rfl, _⟩ := h1
        exact one _ h2.1 (by rw [hkk]; rfl)
      | slice e =>
        rw [hkk] at h1
        obtain ⟨es, rfl, _⟩ := h1
        obtain ⟨A, m, c, e1, e2⟩ := h2
        have := one _ e1 (by rw [hkk]; rfl)
        exact ⟨A, m, c, by rw [this], e2⟩
      | struct fs =>
        rw [hkk] at h1
        obtain ⟨ds, rfl, _⟩ := h1
        rw [hkk] at hk
        obtain ⟨gs, rfl, _⟩ := kindOf_struct hk
        unfold Value.okWide at hok
        rw [hu] at hok
        obtain ⟨cs, rfl, _⟩ := hok
        exact ⟨cs, rfl, DenCs.cellss_ ds _ h2⟩
      | array n' e =>
        rw [hkk] at h1
        obtain ⟨ds, rfl, _⟩ := h1
        rw [hkk] at hk
        have hdd := kindOf_array hk
        subst hdd
        unfold Value.okWide at hok
        rw [hu] at hok
        obtain ⟨cs, rfl, _⟩ := hok
        exact ⟨cs, rfl, DenCs.cellss_ ds _ h2⟩
      | _ => rw [hkk] at h1; cases h1
    · cases h1
theorem open_args (ht : TyTab P tab) {n : Nat} {r : Reach} {b0 : Nat} : ∀ {ts : List TypeId} {vs : List Value} {ds : List (DataW H)} {ps : List MemPlace}, (∀ t ∈ ts, dataTy tab n t = true) →
    (∀ (j : Nat) t v, ts[j]? = some t → vs[j]? = some v → Value.okWide P w r b0 t v) → DataW.TrodAll enc P w base spare held ts vs ds ps →
    ∃ xs, DTl (DT tab n) ts xs ∧ AVsats [] noE w (fun b => b < w.heap.size) (xs.map D.av) vs
  | [], [], [], _, _, _, _ => ⟨[], rfl, rfl⟩
  | t :: ts, v :: vs, d :: ds, _, hd, hok, ⟨p, q, h1, h2, _⟩ => by
    obtain ⟨x, h3, h4⟩ := open_arg ht (hd t (by simp)) (hok 0 t v rfl rfl) h1
    obtain ⟨xs, h5, h6⟩ := open_args ht (fun t h => hd t (by simp [h])) (fun j t v a b => hok (j + 1) t v a b) h2
    exact ⟨x :: xs, ⟨x, xs, rfl, h3, h5⟩, v, vs, rfl, h4, h6⟩
  | [], _ :: _, _, _, _, _, h => h.elim
  | [], [], _ :: _, _, _, _, h => h.elim
  | _ :: _, [], _, _, _, _, h => h.elim
  | _ :: _, _ :: _, [], _, _, _, h => h.elim
theorem Below.trodAll (hl : laidOutB P = true) {W W' : World} (hb : Below W.heap.size W W') : ∀ {ts : List TypeId} {vs : List Value} {ds : List (DataW H)} {ps : List MemPlace}, (∀ t ∈ ts, P.readableRec t = true ∧ t < P.types.size) → (∀ x ∈ ps, x.block < W.heap.size) →
    DataW.TrodAll enc P W 0 (fun _ => true) true ts vs ds ps → DataW.TrodAll enc P W' 0 (fun b => decide (b < W.heap.size)) true ts vs ds ps
  | [], [], [], _, _, _, h => h
  | t :: ts, v :: vs, d :: ds, ps, hr, hlt, ⟨p, q, h1, h2, e⟩ => by
    subst e
    obtain ⟨r1, r2⟩ := hr t (by simp)
    exact ⟨p, q, Below.trod hl r1 r2 h1 hb fun x hx => hlt x (by simp [hx]), Below.trodAll hl hb (fun t h => hr t (by simp [h])) (fun x hx => hlt x (by simp [hx])) h2, rfl⟩
  | [], _ :: _, _, _, _, _, h => h.elim
  | [], [], _ :: _, _, _, _, h => h.elim
  | _ :: _, [], _, _, _, _, h => h.elim
  | _ :: _, _ :: _, [], _, _, _, h => h.elim

/-- What a row of this seat asks of a call, from the walk. -/
theorem law_post {f : FuncId} {fn : Func} {s : ChangeSpec} {n tb : Nat} {r : Reach} {b0 : Nat} {W : World} {args : Array Value} {ds gs : List (DataW H)} {before : List MemPlace} (ht : TyTab P tab) (hlaid : laidOutB P = true) (hvars : s.vars = [])
    (hdata : (fn.params.toList.all fun t => dataTy tab n t) = true) (hread : (fn.params.toList.all fun t => P.readableRec t && decide (t < P.types.size)) = true)
    (hfn : ∀ l : List (DataW H), l.length = fn.params.toList.length → (s.fn H l).results = [.lit (.bool true)] ∧ (s.fn H l).args = l ∧ (s.fn H l).vars = []) (hres : fn.resultTypes = #[tb]) (htb : P.underlying tb = some .bool)
    (hwalk : ∀ xs, DTl (DT tab n) fn.params.toList xs → PCalls P f (xs.map D.av) (.val (.bool true)))
    (hval : ∀ (j : Nat) t v, fn.params[j]? = some t → args[j]? = some v → Value.okWide P W r b0 t v) (hgl : GL (fun b => b < W.heap.size) W) (hW : DataW.Whole enc P fn.params.toList s.vars false W args.toList ds gs before) :
    Calls P f args W fun e W' => ∃ v, e = .returned v ∧ s.post enc P fn false true false false W args v W' := by
  have hW' := hW
  obtain ⟨p, q, hA, hV, rfl, hfz, hnd⟩ := hW
  rw [hvars] at hV
  have hV' := hV
  obtain ⟨rfl, rfl⟩ : gs = [] ∧ q = [] := by
    cases gs with
    | nil => exact ⟨rfl, hV⟩
    | cons _ _ => exact hV.elim
  have hds : ∀ {ts : List TypeId} {vs : List Value} {ds : List (DataW H)} {ps : List MemPlace}, DataW.TrodAll enc P W 0 (fun _ => true) true ts vs ds ps → ds.length = ts.length := by
    intro ts
    induction ts with
    | nil => intro vs ds ps h; cases vs <;> cases ds <;> first | rfl | exact h.elim
    | cons t ts ih =>
      intro vs ds ps h
      cases vs <;> cases ds <;> first | exact h.elim | skip
      obtain ⟨_, _, _, h2, _⟩ := h
      simp [ih h2]
  obtain ⟨f1, f2, f3⟩ := hfn (ds ++ []) (by rw [List.append_nil]; exact hds hA)
  obtain ⟨xs, hx, hs⟩ := open_args (n := n) (r := r) (b0 := b0) ht (fun t h => (List.all_eq_true.1 hdata) t h) (fun j t v a b => hval j t v (by simpa using a) (by simpa using b)) hA
  refine (hwalk xs hx (fun b => b < W.heap.size) W args (fun _ h => h) hgl hs).mono fun e W' ⟨v, he, hb, hv⟩ => ⟨v, he, ds, [], p ++ [], [], p, [], hW', ?_, ?_, ?_, ?_, fun h => by cases h⟩
  · rw [f1, hres, show v = .bool true from hv]
    exact trodAll_mk1 ⟨1, by simp [DataW.trod, htb, Value.cells]⟩
  · rw [f2, List.append_nil]
    exact Below.trodAll hlaid hb (fun t h => by
      have := (List.all_eq_true.1 hread) t h
      simpa using this) (fun x hx => hW'.lt x (by simp [hx])) hA
  · rw [f3, hvars]
    rfl
  · exact World.keptBut_mono (fun p' hp => ⟨hp, .inr (.inl (by simpa using hp))⟩) (hb.frame (· ∈ p ++ []))
end
end Go.Proofs.YtiolnmfaeenlmaaGreatDoor
