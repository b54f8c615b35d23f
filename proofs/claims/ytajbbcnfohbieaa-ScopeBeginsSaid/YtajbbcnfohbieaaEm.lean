/- The engine, part 13: struct literals; rows in boxes; taking up and letting go; bytes to strings; guarded calls. -/
import Derived.Test.YtajbbcnfohbieaaEl
namespace Go.Proofs.Ytajbbcnfohbieaa
open Go Go.RowKit

def placesOf (tab : List (Nat × TE)) : List (Nat × Nat) → Option (List (Nat × Nat))
  | [] => some []
  | (off, t) :: r => match tget tab t, placesOf tab r with
    | some e, some ps => some ((off, e.size) :: ps)
    | _, _ => none
theorem placesOf_spec {P : Program} {tab : List (Nat × TE)} (ht : TyTab P tab) : ∀ {fs : List Field} {ps : List (Nat × Nat)}, placesOf tab (fs.map fun f => (f.offset, f.type)) = some ps →
    fs.mapM (fun f => (P.info? f.type).map fun i => (f.offset, i.size)) = some ps
  | [], ps, h => by cases h; rfl
  | f :: fs, ps, h => by
    simp only [List.map_cons, placesOf] at h
    split at h
    · rename_i e ps' he hps
      cases h
      obtain ⟨d, i, z, _, _, hi, hs, _⟩ := teOf_spec (ht.get he)
      simp [List.mapM_cons, hi, hs, placesOf_spec ht hps]
    · cases h

/-- Parts put into cells, one behind the other. -/
def fillAV (place : Nat → Option (Nat × Nat)) (cells : List AV) : List (Nat × AV) → Option (List AV)
  | [] => some cells
  | (i, x) :: r => match place i with
    | some (off, size) => bif Nat.beq (cellsOf x).length size && Nat.ble (off + size) cells.length && oneCs (cellsOf x) then fillAV place (putCells cells off (cellsOf x)) r else none
    | none => none
theorem foldl_put {cs : Array Value} {l : List Value} {off : Nat} (h : off + l.length ≤ cs.size) :
    ((l.zipIdx 0).foldl (fun cs (x : Value × Nat) => cs.setIfInBounds (off + x.2) x.1) cs).toList = cs.toList.take off ++ l ++ cs.toList.drop (off + l.length) := by
  obtain ⟨h1, h2⟩ := Go.Great.foldl_set off l 0 cs
  apply List.ext_getElem?
  intro k
  rw [Array.getElem?_toList, h2 k]
  simp only [Nat.add_zero]
  have hl1 : (cs.toList.take off).length = off := by rw [List.length_take, Array.length_toList]; omega
  have hl2 : (cs.toList.take off ++ l).length = off + l.length := by rw [List.length_append, hl1]
  by_cases hk : off ≤ k ∧ k < off + l.length ∧ k < cs.size
  · rw [if_pos hk, List.append_assoc, List.getElem?_append_right (by rw [hl1]; exact hk.1), hl1, List.getElem?_append_left (by omega)]
  · rw [if_neg hk]
    rcases Nat.lt_or_ge k off with hlt | hge
    · rw [List.append_assoc, List.getElem?_append_left (by rw [hl1]; exact hlt), List.getElem?_take, if_pos hlt]
      simp
    · rcases Nat.lt_or_ge k (off + l.length) with hlt' | hge'
      · exact absurd ⟨hge, hlt', by omega⟩ hk
      · rw [List.getElem?_append_right (by rw [hl2]; exact hge'), List.getElem?_drop, hl2]
        rw [show off + l.length + (k - (off + l.length)) = k by omega]
        simp
theorem fillAV_sat {M : List AB} {β : Env} {w : World} {imm : Nat → Prop} {place : Nat → Option (Nat × Nat)} : ∀ {ps : List (Nat × AV)} {vs : List (Nat × Value)} {cells out : List AV} {cs : Array Value}, fillAV place cells ps = some out →
    ps.map (·.1) = vs.map (·.1) → AVsats M β w imm (ps.map (·.2)) (vs.map (·.2)) → AVsats M β w imm cells cs.toList → ∃ cs', Instr.fill place cs vs = some cs' ∧ AVsats M β w imm out cs'.toList
  | [], vs, cells, out, cs, h, h1, _, h3 => by
    cases h
    cases vs with
    | nil => exact ⟨cs, rfl, h3⟩
    | cons => simp at h1
  | (i, x) :: r, vs, cells, out, cs, h, h1, h2, h3 => by
    match vs, h1, h2 with
    | (j, v) :: vs, h1, ⟨_, _, e, h4, h5⟩ =>
      simp only [List.map_cons, List.cons.injEq] at h1 e
      obtain ⟨rfl, h1⟩ := h1
      obtain ⟨rfl, rfl⟩ := e
      simp only [fillAV] at h
      split at h
      · rename_i off size hp
        cases hb : (Nat.beq (cellsOf x).length size && Nat.ble (off + size) cells.length && oneCs (cellsOf x)) with
        | false => rw [hb] at h; cases h
        | true =>
          rw [hb] at h
          simp only [Bool.and_eq_true] at hb
          obtain ⟨⟨b1, b2⟩, b3⟩ := hb
          have b1 := Nat.eq_of_beq_eq_true b1
          have b2 := Nat.le_of_ble_eq_true b2
          obtain ⟨h6, _⟩ := cellsOf_sat b3 h4
          have l6 := h6.len
          have l3 := h3.len
          rw [Array.length_toList] at l6 l3
          have hput := putCells_sat (off := off) h3 h6
          have e := foldl_put (cs := cs) (l := v.cells.toList) (off := off) (by simp; omega)
          rw [← e] at hput
          obtain ⟨cs', h7, h8⟩ := fillAV_sat (cs := (v.cells.toList.zipIdx 0).foldl (fun cs (x : Value × Nat) => cs.setIfInBounds (off + x.2) x.1) cs) h h1 h5 hput
          refine ⟨cs', ?_, h8⟩
          unfold Instr.fill
          simp only [hp]
          rw [if_neg (by simp; omega)]
          rw [← h7]
          congr 1
          rw [← Array.foldl_toList, Array.toList_zipIdx]
      · cases h

def buildAV (tab : List (Nat × TE)) (T : Nat) (ps : List (Nat × AV)) : Option (List AV) :=
  match tget tab T with
  | some te => match te.kind with
    | .struct fs => match placesOf tab fs with
      | some pl => match fillAV (pl[·]?) (te.zero.map .val) ps with
        | some l => nfs l
        | none => none
      | none => none
    | .array _ e => match tget tab e with
      | some ee => match fillAV (fun i => some (i * ee.size, ee.size)) (te.zero.map .val) ps with
        | some l => nfs l
        | none => none
      | none => none
    | _ => none
  | none => none

section
variable {P : Program} {o : Oper} {M M' : List AB} {ρ : Operand → AV} {out : AV} {tab : List (Nat × TE)}
theorem vals_sat {β : Env} {w : World} {imm : Nat → Prop} : ∀ l : List Value, AVsats M β w imm (l.map .val) l
  | [] => rfl
  | a :: as => ⟨a, as, rfl, rfl, vals_sat as⟩
theorem buildAV_sound (ht : TyTab P tab) {β : Env} {w : World} {imm : Nat → Prop} {T : Nat} {ps : List (Nat × AV)} {vs : List (Nat × Value)} {l : List AV} (h : buildAV tab T ps = some l) (h1 : ps.map (·.1) = vs.map (·.1)) (h2 : AVsats M β w imm (ps.map (·.2)) (vs.map (·.2))) :
    ∃ cs, P.built T vs = some cs ∧ AVsats M β w imm l cs.toList := by
  unfold buildAV at h
  split at h
  · rename_i te hT
    obtain ⟨d, i, z, hd, hk, hi, _, _, hz, hc⟩ := teOf_spec (ht.get hT)
    have hzs : AVsats M β w imm (te.zero.map .val) z.cells.toList := by rw [hc]; exact vals_sat _
    split at h
    · rename_i fs hkk
      split at h
      · rename_i pl hpl
        split at h
        · rename_i l' hl
          rw [← nfs_eq h]
          obtain ⟨cs, h3, h4⟩ := fillAV_sat hl h1 h2 hzs
          refine ⟨cs, ?_, h4⟩
          rw [hkk] at hk
          cases d <;> simp [kindOf] at hk
          rename_i fields
          subst hk
          have := placesOf_spec ht hpl
          simp [Program.built, hi, hd, hz, this, h3]
        · cases h
      · cases h
    · rename_i n e hkk
      split at h
      · rename_i ee hee
        split at h
        · rename_i l' hl
          rw [← nfs_eq h]
          obtain ⟨cs, h3, h4⟩ := fillAV_sat hl h1 h2 hzs
          refine ⟨cs, ?_, h4⟩
          rw [hkk] at hk
          cases d <;> simp [kindOf] at hk
          obtain ⟨rfl, rfl⟩ := hk
          obtain ⟨d', i', z', _, _, hi', hs', _⟩ := teOf_spec (ht.get hee)
          simp [Program.built, hi, hd, hz, hi', hs', h3]
        · cases h
      · cases h
    · cases h
  · cases h
theorem mem_parts' {parts : Array (Nat × Operand)} {x : Operand} {T : Nat} (ho : o.op = .build T parts) (hx : x ∈ partsOf parts) : x ∈ o.op.operands := by
  rw [ho]
  simp only [Op.operands, List.mem_toArray]
  exact hx
def partsAV (ρ : Operand → AV) (parts : Array (Nat × Operand)) : List (Nat × AV) := parts.toList.map fun p => (p.1, ρ p.2)
theorem astep_build (ht : TyTab P tab) {T : Nat} {parts : Array (Nat × Operand)} {l : List AV} (ho : o.op = .build T parts) (hl : buildAV tab T (partsAV ρ parts) = some l) : AStep P o M ρ M (.agg l) :=
  .value fun S B β a w _ hs => by
    have h2 := map_sat (l := partsOf parts) fun x hx => hs x (mem_parts' ho hx)
    obtain ⟨cs, h3, h4⟩ := buildAV_sound (P := P) (vs := parts.toList.map fun p => (p.1, a.eval p.2)) ht hl (by simp [partsAV]) (by simpa [partsAV, partsOf, Function.comp_def] using h2)
    refine ⟨.agg cs, ?_, cs, rfl, h4⟩
    have := run_build (P := P) w T (parts.map fun (i, x) => (i, a.eval x)) cs (by simpa using h3)
    simp only [execOp, ho]
    simp only [Sem.run_bind, this]
    rfl

/-- Bytes that are written out, as a string. -/
def u8s : List D → Option (List Int)
  | [] => some []
  | .val (.int .u8 n) :: r => match u8s r with
    | some ns => some (n :: ns)
    | none => none
  | _ => none
def bytesStr (ns : List Int) : ByteArray := ⟨(ns.map fun n => UInt8.ofNat n.toNat).toArray⟩
theorem u8s_eq : ∀ {es : List D} {ns : List Int}, u8s es = some ns → es = ns.map fun n => .val (.int .u8 n)
  | [], ns, h => by cases h; rfl
  | d :: r, ns, h => by
    unfold u8s at h
    split at h
    · rename_i h'; cases h'
    · rename_i n r' h'
      cases h'
      split at h
      · rename_i ns' h1
        cases h
        rw [u8s_eq h1]
        rfl
      · cases h
    · cases h
theorem foldl_bytes (ns : List Int) (s : ByteArray) : ns.foldl (fun r n => r.push (UInt8.ofNat n.toNat)) s = ⟨s.data ++ (ns.map fun n => UInt8.ofNat n.toNat).toArray⟩ := by
  induction ns generalizing s with
  | nil => simp
  | cons n ns ih =>
    rw [List.foldl_cons, ih]
    apply ByteArray.ext
    simp [ByteArray.push]
theorem cells_u8 {w : World} {imm : Nat → Prop} : ∀ {ns : List Int} {cs : List Value}, DenCs w imm (ns.map fun n => D.val (.int .u8 n)) cs → cs = ns.map (Value.int .u8)
  | [], cs, h => h
  | n :: ns, cs, ⟨c1, c2, h1, h2, h3⟩ => by
    rw [h1, h2.1, cells_u8 h3]; rfl
theorem astep_bytes_str (ht : TyTab P tab) {T U e : Nat} {ee : TE} {x : Operand} {ns : List Int} (ho : o.op = .convert T U x) (hT : elemOf_ tab T = some (e, ee)) (he : kindAt tab e = some (.int .u8)) (hU : kindAt tab U = some .str)
    (hx : ρ x = .sl 1 (ns.map fun n => .val (.int .u8 n))) : AStep P o M ρ M (.val (.string (bytesStr ns))) :=
  .value fun S B β a w _ hs => by
    have h1 := hs x (by simp [ho, Op.operands])
    rw [hx] at h1
    obtain ⟨A, n, c, rows, s1, s2, s3, s4, s5, s6, s7⟩ := src_of h1
    have hcv := run_convert_bytes_string (P := P) w T U e A n c (elemOf_spec ht hT).1 (kindAt_int ht he) (kindAt_str ht hU)
    have hrows := cells_u8 s4
    rw [List.length_map] at s2
    cases A with
    | none =>
      have h0 : ns = [] := by
        refine List.eq_nil_of_length_eq_zero ?_
        rcases Nat.eq_zero_or_pos n with h | h
        · omega
        · obtain ⟨ad, h'⟩ := s6 h; cases h'
      subst h0
      refine ⟨_, ?_, rfl⟩
      simp only [execOp, ho, s1]
      simp only [Sem.run_bind, hcv]
      simp [Conv.bytesToString, bytesStr]
      rfl
    | some ad =>
      have hl := run_loadCells_list (P := P) (w := w) ad rows (s7 ad rfl)
      rw [s5, Nat.mul_one, hrows] at hl
      have hr := run_bytesToString (P := P) w ad n c ns hl
      refine ⟨_, ?_, rfl⟩
      simp only [execOp, ho, s1]
      simp only [Sem.run_bind, hcv, hr, foldl_bytes]
      simp [bytesStr]
end

section
variable {P : Program} {ops : Array Oper} {N : Nat} {K : AS → Prop} {o : Oper} {r : List Oper} {fo fo' : Option (List Nat)} {M M' : List AB} {F : List (Nat × AV)} {dt : Tmp} {tab : List (Nat × TE)} {out : AV}
theorem r_build (ht : TyTab P tab) {T : Nat} {parts : Array (Nat × Operand)} {l : List AV} (hg : o.guard = none) (ho : o.op = .build T parts) (hl : buildAV tab T (partsAV (aval (look F)) parts) = some l) (hdd : o.dst = some dt) (hd : dstB o.dst N = true)
    (hp : popF fo 0 = some fo') (k : RunX P ops N K r fo' M ((dt, .agg l) :: F)) : RunX P ops N K (o :: r) fo M F :=
  RunX.mk (fun _ k => Run.pure_ hd (fun _ => StepG.plain hg (astep_build ht ho hl)) (by rw [put_eq hdd]; exact k)) hp k
theorem r_build_cnd (ht : TyTab P tab) {j : Nat} {want c0 : Bool} {g : Tmp} {T : Nat} {parts : Array (Nat × Operand)} {l : List AV} (hg : o.guard = some (j, want)) (hj : dstOf ops j = some g) (hF : guardOf want (look F g) = some c0) (ho : o.op = .build T parts)
    (hl : buildAV tab T (partsAV (aval fun t => strip (look F t)) parts) = some l) (hcs : c0 = true → condsOf (look F) o.op.operands.toList = true) (hdd : o.dst = some dt) (hd : dstB o.dst N = true)
    (hp : popF fo 0 = some fo') (k : RunX P ops N K r fo' M ((dt, .cnd c0 (.agg l)) :: F)) : RunX P ops N K (o :: r) fo M F :=
  RunX.mk (fun _ k => Run.pure_ hd (fun _ => StepG.cnd hg hj hF hcs fun _ => astep_build ht ho hl) (by rw [put_eq hdd]; exact k)) hp k
theorem r_bstr (ht : TyTab P tab) {T U e : Nat} {ee : TE} {x : Operand} {es : List D} {ns : List Int} (hg : o.guard = none) (ho : o.op = .convert T U x) (hT : elemOf_ tab T = some (e, ee)) (he : kindAt tab e = some (.int .u8)) (hU : kindAt tab U = some .str)
    (hx : aval (look F) x = .sl 1 es) (hns : u8s es = some ns) (hdd : o.dst = some dt) (hd : dstB o.dst N = true) (hp : popF fo 0 = some fo') (k : RunX P ops N K r fo' M ((dt, .val (.string (bytesStr ns))) :: F)) : RunX P ops N K (o :: r) fo M F :=
  RunX.mk (fun _ k => Run.pure_ hd (fun _ => StepG.plain hg (astep_bytes_str ht ho hT he hU (by rw [hx, u8s_eq hns]))) (by rw [put_eq hdd]; exact k)) hp k
theorem r_built_cnd (ht : TyTab P tab) {j : Nat} {want c0 : Bool} {g : Tmp} {T n e : Nat} {ee : TE} {parts : Array (Nat × Operand)} {ds : List D} (hg : o.guard = some (j, want)) (hj : dstOf ops j = some g) (hF : guardOf want (look F g) = some c0) (ho : o.op = .buildSlice T n parts) (hT : elemOf_ tab T = some (e, ee))
    (hok : (Nat.blt 0 ee.size && Nat.beq ee.zero.length ee.size && Nat.beq (partsOf parts).length n && Nat.ble (n * ee.size) 16777216 && inOrder parts.toList 0) = true)
    (hds : toDall ((partsOf parts).map (aval fun t => strip (look F t))) = some ds) (hf : fitK ee.size ((partsOf parts).map (aval fun t => strip (look F t))) ds = true) (hcs : c0 = true → condsOf (look F) o.op.operands.toList = true)
    (hdd : o.dst = some dt) (hd : dstB o.dst N = true) (hp : popF fo 1 = some fo') (k : RunX P ops N K r fo' M ((dt, .cnd c0 (.sl ee.size ds)) :: F)) : RunX P ops N K (o :: r) fo M F :=
  RunX.mk (fun _ k => Run.quiet hd (StepG.cnd hg hj hF hcs fun _ => astep_buildSlice ht ho hT hok hds hf) (by rw [put_eq hdd]; exact k)) hp k
end

end Go.Proofs.Ytajbbcnfohbieaa
