/- NestSplit: commas among tokens; the law's walk. -/
import Derived.Test.YtogjmafjoliimaaNc
namespace Go.Proofs.Ytogjmafjoliimaa
open Go Go.RowKit

theorem goE_mem {α R : Type} {step : Nat → (List α × Nat) ⊕ R} {t : α} : ∀ (f i : Nat), t ∈ (goE step f i).1 → ∃ k o j, step k = .inl (o, j) ∧ t ∈ o
  | 0, i, h => by rw [goE] at h; cases h
  | f + 1, i, h => by
    rw [goE] at h
    cases e : step i with
    | inr r => rw [e] at h; cases h
    | inl p =>
      obtain ⟨o, j⟩ := p
      rw [e] at h
      rcases List.mem_append.1 h with h | h
      · exact ⟨i, o, j, e, h⟩
      · exact goE_mem f j h
theorem toksF_mem {L : List Int} {t : Tk} (h : t ∈ toksF L) : ∃ i, t = (tokF L i).1 := by
  obtain ⟨k, o, j, h1, h2⟩ := goE_mem _ _ h
  unfold tStep at h1
  split at h1
  · cases h1
  · cases h1
    exact ⟨_, List.mem_singleton.1 h2⟩
theorem num_kind (L : List Int) (i : Nat) : (numF L i).1.kind = 10 ∨ (numF L i).1.kind = 11 ∨ (numF L i).1.kind = 12 := by
  unfold numF
  split
  · exact .inr (.inr rfl)
  · split
    · exact .inr (.inl rfl)
    · exact .inl rfl
theorem url_kind (L : List Int) (i : Nat) : (urlF L i).1.kind = 7 ∨ (urlF L i).1.kind = 8 := by
  unfold urlF
  dsimp only
  split
  · exact .inl rfl
  · exact .inr rfl
theorem quo_kind (q : Int) (L : List Int) (i : Nat) : (quoF q L i).1.kind = 5 ∨ (quoF q L i).1.kind = 6 := by
  unfold quoF
  dsimp only
  split
  · exact .inl rfl
  · exact .inr rfl
theorem idt_kind (L : List Int) (i : Nat) : (idtF L i).1.kind = 1 ∨ (idtF L i).1.kind = 2 ∨ (idtF L i).1.kind = 7 ∨ (idtF L i).1.kind = 8 := by
  unfold idtF
  split
  · split
    · split
      · exact .inr (.inl rfl)
      · exact .inr (.inr (url_kind _ _))
    · exact .inr (.inl rfl)
  · exact .inl rfl
theorem tok_comma (L : List Int) (i : Nat) (h : (tokF L i).1.kind = 18) : (tokF L i).1 = tkK 18 ⟨#[]⟩ := by
  unfold tokF at h ⊢
  split
  · rename_i hp
    rw [if_pos hp] at h
    have key : ∀ p, p < 9 → kindsL.getD p 0 = 18 → ¬ p < 6 := by decide
    have h' : kindsL.getD (plI (sg L i)) 0 = 18 := h
    dsimp only
    rw [if_neg (key _ hp h'), h']
  · rename_i hp
    rw [if_neg hp] at h
    split at h
    · exact absurd h (by decide : ¬ ((13 : Int) = 18))
    split at h
    · have := quo_kind (sg L i) L (i + 1); omega
    split at h
    · exact absurd h (by decide : ¬ ((4 : Int) = 18))
    split at h
    · have := num_kind L i; omega
    split at h
    · exact absurd h (by decide : ¬ ((15 : Int) = 18))
    split at h
    · exact absurd h (by decide : ¬ ((14 : Int) = 18))
    split at h
    · exact absurd h (by decide : ¬ ((3 : Int) = 18))
    split at h
    · have := idt_kind L i; omega
    · exact absurd h (by decide : ¬ ((9 : Int) = 18))
theorem all_comma (s : ByteArray) {n : Nd} (hn : n ∈ allA (toks s) 0) (hc : cmB n = true) : n = cm := by
  have hk : n.tok.kind = 18 := by rw [cmB, decide_eq_true_eq] at hc; exact hc
  have h1 := allA_tok (p := fun t => t.kind = 18 → t = tkK 18 ⟨#[]⟩) (fun h => by exact absurd h (by decide)) (toks s) (fun t ht h => by
    obtain ⟨i, rfl⟩ := toksF_mem ht
    exact tok_comma _ i h) _ 0 (Nat.le_refl _) n hn hk
  have h2 := (allA_ok (toks s) _ 0 (Nat.le_refl _) n hn).1
  obtain ⟨t, k⟩ := n
  have h1 : t = tkK 18 ⟨#[]⟩ := h1
  subst h1
  rcases h2 with ⟨h, _⟩ | ⟨_, rfl⟩
  · rcases opB_kind h with h | h
    · exact absurd h (by decide)
    · exact absurd h (by decide)
  · rfl
theorem joinF_take_len (ps : List (List Nd)) (i : Nat) : (joinF (ps.take i)).length ≤ (joinF ps).length := by
  have h : ps = ps.take i ++ ps.drop i := (List.take_append_drop i ps).symm
  have h2 : (ps.flatMap fun p => cm :: p).length = ((ps.take i).flatMap fun p => cm :: p).length + ((ps.drop i).flatMap fun p => cm :: p).length := by
    conv => lhs; rw [h]
    rw [List.flatMap_append, List.length_append]
  rw [joinF, joinF, List.length_drop, List.length_drop]
  omega
theorem joinF_next {ps : List (List Nd)} {i : Nat} (h : i < ps.length) (h0 : i ≠ 0) : joinF (ps.take (i + 1)) = joinF (ps.take i) ++ cm :: ps[i] := by
  rw [List.take_succ_eq_append_getElem h, joinF_snoc]
  intro e
  have := congrArg List.length e
  rw [List.length_take, List.length_nil] at this
  omega
theorem joinF_one {ps : List (List Nd)} (h : 0 < ps.length) : joinF (ps.take 1) = ps[0] := by
  rw [List.take_succ_eq_append_getElem h]
  simp [joinF]
theorem denCs_mid {w : World} {imm : Nat → Prop} {d d' : D} (h : ∀ cs, DenC w imm d cs → DenC w imm d' cs) {a b : List D} {cs : List Value} (k : DenCs w imm (a ++ d :: b) cs) : DenCs w imm (a ++ d' :: b) cs := by
  obtain ⟨x, y, rfl, k1, c1, c2, rfl, k2, k3⟩ := k.split
  exact k1.append (b := d' :: b) ⟨c1, c2, rfl, h _ k2, k3⟩
/-- An own row's element, said otherwise. -/
theorem fits_rowD {cx : Cx} {M : List AB} {F : List (Nat × AV)} {i ver e k : Nat} {es es' : List D} (hM : M[i]? = some (.row ver e k es)) (hl : es'.length = es.length) (hw' : AllW k es') (hd : ∀ w imm cs, DenCs w imm es cs → DenCs w imm es' cs) : Fits cx ⟨M, F⟩ ⟨M.set i (.row ver e k es'), F⟩ := by
  rintro a w ⟨h1, h2, β, h3, h4, h5⟩
  have hent := h3.ent i _ hM
  have := h3.set_ (w' := w) (ab' := .row ver e k es') (x := β i) hM rfl rfl rfl rfl (Nat.le_refl _) (fun _ _ _ => rfl) (fun g c hc => .inl ⟨c, hc⟩) ⟨Nat.le_refl _, rfl, fun _ => ⟨rfl, hl⟩⟩
    (fun hE => by
      obtain ⟨_, ⟨q1, q2⟩ | ⟨g, cap, cs, q1, q2, q3, q4, q5, q6⟩⟩ := hent
      · refine ⟨hw', .inl ⟨q1, List.eq_nil_of_length_eq_zero (by rw [hl, q2, List.length_nil])⟩⟩
      · refine ⟨hw', .inr ⟨g, cap, cs, q1, by rw [hl]; exact q2, by rw [hl]; exact q3, q4, q5, ?_⟩⟩
        rw [hl]
        exact DenCs.mono (fun _ => immOf.ev hE) (fun _ off => immOf.cell hE off) _ _ (hd _ _ _ q6))
  rw [setE_id] at this
  exact ⟨h1, h2, β, this.2, h4.trans this.1, fun d => (h5 d).ev this.1⟩
def cD : D := .ag [.val (.int .i64 18), .val (.string ⟨#[]⟩), .val (.int .i64 0), .val (.bool false), .val (.bool false), .val (.bool false), .val (.slice none 0 0)]
theorem cD_sub {w : World} {imm : Nat → Prop} {cs : List Value} (h : DenC w imm cD cs) : DenC w imm (nF cm) cs := by
  obtain ⟨a1, b1, rfl, h1, a2, b2, rfl, h2, a3, b3, rfl, h3, a4, b4, rfl, h4, a5, b5, rfl, h5, a6, b6, rfl, h6, a7, b7, rfl, h7, h8⟩ := h
  refine ⟨a1, _, rfl, h1, a2, _, rfl, h2, a3, _, rfl, h3, a4, _, rfl, h4, a5, _, rfl, h5, a6, _, rfl, h6, a7, b7, rfl, ?_, h8⟩
  exact ⟨none, 0, 0, h7.1, rfl, Nat.le_refl _, Nat.zero_le _, by simp [AllW, cm, Nd.kids], fun h => absurd h (by show ¬ 0 < 0; omega)⟩
theorem nF_w (l : List Nd) : AllW 7 (l.map nF) := by
  intro d hd
  obtain ⟨n, _, rfl⟩ := List.mem_map.1 hd
  rfl
structure CS (l : List Nd) where
  i : Nat
  hi : i ≤ l.length
set_option maxHeartbeats 2000000 in
theorem split_law (s : ByteArray) (hs : s.size ≤ 9223372036854775807) : PCalls Try.prog 5 [.val (.string s)] (.val (.bool true)) := by
  refine p_start Try.func5 Try.ntmps5 rfl rfl rfl fun S w => ?_
  repeat (first
    | refine awp_seq ?_
    | refine thenA_normal ?_
    | refine a_region ?_
    | refine r_done ?_
    | (refine r_id ?_; first
      | refine r_ev tab_ok rfl rfl rfl rfl (by first | exact trivial | exact ⟨by omega, by omega⟩ | omega | exact ⟨by omega, by omega, by omega, by omega⟩ | exact Nat.le_of_ble_eq_true rfl) rfl ?_))
  refine awp_cond_p rfl (fun h => ?_) (fun h => ?_)
  · repeat (first
      | refine awp_seq ?_
      | refine a_region ?_)
    refine r_call awake_ok call8 rfl rfl trivial rfl rfl rfl rfl ?_
    repeat (first
      | refine thenA_normal ?_
      | refine awp_ret ?_
      | refine thenA_ret ?_
      | refine r_done ?_
      | (refine r_id ?_; first
        | refine r_ev tab_ok rfl rfl rfl rfl (by first | exact trivial | exact ⟨by omega, by omega⟩ | omega | exact ⟨by omega, by omega, by omega, by omega⟩ | exact Nat.le_of_ble_eq_true rfl) rfl ?_)
      | refine ret1 (by first | exact .inl rfl | exact .inr rfl) rfl rfl rfl ?_)
    exact Sub.refl _
  have hs' : s.size ≤ 500 := by omega
  have htl := toks_len s
  have hal := allA_sz0 (toks s)
  repeat (first
    | refine awp_seq ?_
    | refine a_region ?_
    | refine awp_skip ?_
    | (refine r_id ?_; first
      | refine r_ev tab_ok rfl rfl rfl rfl (by first | exact trivial | exact ⟨by omega, by omega⟩ | omega | exact ⟨by omega, by omega, by omega, by omega⟩ | exact Nat.le_of_ble_eq_true rfl) rfl ?_))
  refine r_call (text_ok s (by omega)) call10 rfl rfl ⟨Sub.refl _, trivial⟩ rfl rfl rfl rfl ?_
  refine r_call (all_ok (toks s) (by omega)) call9 rfl rfl ⟨Sub.refl _, trivial⟩ rfl rfl rfl rfl ?_
  repeat (first
    | refine awp_seq ?_
    | refine a_region ?_
    | refine r_done ?_
    | (refine r_id ?_; first
      | refine r_ev tab_ok rfl rfl rfl rfl (by first | exact trivial | exact ⟨by omega, by omega⟩ | omega | exact ⟨by omega, by omega, by omega, by omega⟩ | exact Nat.le_of_ble_eq_true rfl) rfl ?_))
  have hcm : ∀ n ∈ allA (toks s) 0, cmB n = true → n = cm := fun n => all_comma s
  generalize allA (toks s) 0 = l at *
  have hll := nszs_len l
  have hlm : (l.map nF).length = l.length := List.length_map _
  have hjoin : joinF (splitF l) = l := by
    have := join_split l [] [] hcm
    rw [List.nil_append] at this
    exact this
  have hlen : (splitF l).length = 1 + l.countP cmB := by
    have := splitG_len l [] []
    rw [List.length_nil, Nat.zero_add] at this
    exact this
  have hcp : l.countP cmB ≤ l.length := List.countP_le_length
  refine r_call (split_ok 1000 l (by omega) (by decide)) call16 rfl rfl ⟨Sub.refl _, trivial⟩ rfl rfl rfl rfl ?_
  repeat (first
    | refine awp_seq ?_
    | refine thenA_normal ?_
    | refine awp_block ?_
    | refine a_region ?_
    | refine r_done ?_
    | (refine r_id ?_; first
      | refine r_ev tab_ok rfl rfl rfl rfl (by first | exact trivial | exact ⟨by omega, by omega⟩ | omega | exact ⟨by omega, by omega, by omega, by omega⟩ | exact Nat.le_of_ble_eq_true rfl) rfl ?_))
  refine a_loop (σ := CS l) (fun _ => []) (fun x => [(3, .sl 7 (l.map nF)), (4, .sl 1 ((splitF l).map nds)), (5, .val (.int .i64 (1 + (l.take x.i).countP cmB : Nat))), (6, .val (.int .i64 x.i))]) (fun x => l.length - x.i) ⟨0, Nat.zero_le _⟩ (fits_conv (by repeat' first | exact trivial | exact rfl | (rw [List.map_append]; first | done | rfl) | exact c_sub rfl (Sub.refl _) rfl | exact c_nil rfl rfl | exact c_thaw rfl rfl rfl | exact c_row rfl rfl rfl | exact c_row rfl rfl (by rw [List.map_append]; first | done | rfl) | exact c_ptr rfl rfl rfl rfl | exact Or.inl ⟨c_sub rfl (Sub.refl _) rfl, c_ptr rfl rfl rfl rfl⟩ | exact c_alt rfl rfl rfl rfl | exact c_ro rfl rfl | exact c_eo rfl rfl | exact c_sub rfl (Sub.altl _ _) rfl | exact c_sub rfl (Sub.nil _) rfl | refine ⟨_, _, rfl, ?_, ?_⟩ | apply And.intro) (by repeat' first | exact trivial | exact rfl | (rw [List.map_append]; first | done | rfl) | exact c_sub rfl (Sub.refl _) rfl | exact c_nil rfl rfl | exact c_thaw rfl rfl rfl | exact c_row rfl rfl rfl | exact c_row rfl rfl (by rw [List.map_append]; first | done | rfl) | exact c_ptr rfl rfl rfl rfl | exact Or.inl ⟨c_sub rfl (Sub.refl _) rfl, c_ptr rfl rfl rfl rfl⟩ | exact c_alt rfl rfl rfl rfl | exact c_ro rfl rfl | exact c_eo rfl rfl | exact c_sub rfl (Sub.altl _ _) rfl | exact c_sub rfl (Sub.nil _) rfl | refine ⟨_, _, rfl, ?_, ?_⟩ | apply And.intro)) ?_
  rintro ⟨i, hi⟩
  dsimp only
  repeat (first
    | refine awp_seq ?_
    | refine thenA_normal ?_
    | refine a_region ?_
    | refine r_done ?_
    | (refine r_id ?_; first
      | refine r_len tab_ok rfl rfl rfl rfl rfl rfl rfl ?_
      | refine r_ev tab_ok rfl rfl rfl rfl (by first | exact trivial | exact ⟨by omega, by omega⟩ | omega | exact ⟨by omega, by omega, by omega, by omega⟩ | exact Nat.le_of_ble_eq_true rfl) rfl ?_))
  refine awp_cond_p rfl (fun hlt => ?_) (fun hge => ?_)
  · have hlt' : i < l.length := by omega
    have hi' : ((i : Nat) : Int).toNat < l.length := by rw [Int.toNat_natCast]; exact hlt'
    have hct : (l.take (i + 1)).countP cmB = (l.take i).countP cmB + if cmB l[i] = true then 1 else 0 := by
      rw [List.take_succ_eq_append_getElem hlt', List.countP_append, List.countP_singleton]
    have hcl : (l.take i).countP cmB ≤ l.length := Nat.le_trans List.countP_le_length (by rw [List.length_take]; omega)
    repeat (first
      | refine awp_seq ?_
      | refine thenA_normal ?_
      | refine awp_block ?_
      | refine a_region ?_
      | refine awp_skip ?_
      | refine r_done ?_
      | (refine r_id ?_; first
        | refine r_ev tab_ok rfl rfl rfl rfl (by first | exact trivial | exact ⟨by omega, by omega⟩ | omega | exact ⟨by omega, by omega, by omega, by omega⟩ | exact Nat.le_of_ble_eq_true rfl) rfl ?_
        | refine r_idx tab_ok rfl rfl rfl rfl rfl rfl rfl (by first | exact ⟨by omega, by omega⟩ | (simp; omega)) rfl rfl ?_))
    refine awp_cond rfl (fun hc => ?_) (fun hc => ?_)
    · simp only [Int.toNat_natCast] at hc
      rw [if_pos (show cmB l[i] = true from hc)] at hct
      repeat (first
        | refine thenA_normal ?_
        | refine a_region ?_
        | refine r_done ?_
        | (refine r_id ?_; first
          | refine r_ev tab_ok rfl rfl rfl rfl (by first | exact trivial | exact ⟨by omega, by omega⟩ | omega | exact ⟨by omega, by omega, by omega, by omega⟩ | exact Nat.le_of_ble_eq_true rfl) rfl ?_))
      exact ⟨⟨i + 1, hlt'⟩, by dsimp only; omega, fits_conv (by repeat' first | exact trivial | exact rfl | (rw [List.map_append]; first | done | rfl) | exact c_sub rfl (Sub.refl _) rfl | exact c_nil rfl rfl | exact c_thaw rfl rfl rfl | exact c_row rfl rfl rfl | exact c_row rfl rfl (by rw [List.map_append]; first | done | rfl) | exact c_ptr rfl rfl rfl rfl | exact Or.inl ⟨c_sub rfl (Sub.refl _) rfl, c_ptr rfl rfl rfl rfl⟩ | exact c_alt rfl rfl rfl rfl | exact c_ro rfl rfl | exact c_eo rfl rfl | exact c_sub rfl (Sub.altl _ _) rfl | exact c_sub rfl (Sub.nil _) rfl | refine ⟨_, _, rfl, ?_, ?_⟩ | apply And.intro) ⟨c_sub rfl (Sub.refl _) rfl, c_sub rfl (Sub.refl _) rfl, c_sub rfl (Sub.of_eq (by rw [hct, show ((1 + ((l.take i).countP cmB + 1) : Nat) : Int) = ((1 + (l.take i).countP cmB : Nat) : Int) + 1 by omega]; rfl)) rfl, c_sub rfl (Sub.refl _) rfl, trivial⟩⟩
    · simp only [Int.toNat_natCast] at hc
      rw [if_neg (by rw [show cmB l[i] = false from hc]; decide)] at hct
      repeat (first
        | refine thenA_normal ?_
        | refine a_region ?_
        | refine awp_skip ?_
        | refine r_done ?_
        | (refine r_id ?_; first
          | refine r_ev tab_ok rfl rfl rfl rfl (by first | exact trivial | exact ⟨by omega, by omega⟩ | omega | exact ⟨by omega, by omega, by omega, by omega⟩ | exact Nat.le_of_ble_eq_true rfl) rfl ?_))
      exact ⟨⟨i + 1, hlt'⟩, by dsimp only; omega, fits_conv (by repeat' first | exact trivial | exact rfl | (rw [List.map_append]; first | done | rfl) | exact c_sub rfl (Sub.refl _) rfl | exact c_nil rfl rfl | exact c_thaw rfl rfl rfl | exact c_row rfl rfl rfl | exact c_row rfl rfl (by rw [List.map_append]; first | done | rfl) | exact c_ptr rfl rfl rfl rfl | exact Or.inl ⟨c_sub rfl (Sub.refl _) rfl, c_ptr rfl rfl rfl rfl⟩ | exact c_alt rfl rfl rfl rfl | exact c_ro rfl rfl | exact c_eo rfl rfl | exact c_sub rfl (Sub.altl _ _) rfl | exact c_sub rfl (Sub.nil _) rfl | refine ⟨_, _, rfl, ?_, ?_⟩ | apply And.intro) ⟨c_sub rfl (Sub.refl _) rfl, c_sub rfl (Sub.refl _) rfl, c_sub rfl (Sub.of_eq (by rw [hct, Nat.add_zero]; rfl)) rfl, c_sub rfl (Sub.refl _) rfl, trivial⟩⟩
  · rw [List.take_of_length_le (by omega : l.length ≤ i), ← hlen]
    repeat (first
      | refine awp_seq ?_
      | refine thenA_normal ?_
      | refine awp_block ?_
      | refine a_region ?_
      | refine awp_exit ?_
      | refine r_done ?_
      | (refine r_id ?_; first
        | refine r_ev tab_ok rfl rfl rfl rfl (by first | exact trivial | exact ⟨by omega, by omega⟩ | omega | exact ⟨by omega, by omega, by omega, by omega⟩ | exact Nat.le_of_ble_eq_true rfl) rfl ?_))
    generalize splitF l = ps at *
    have hpm : (ps.map nds).length = ps.length := List.length_map _
    refine a_loop (σ := {i : Nat // i ≤ ps.length}) (fun x => [.row 0 36 7 ((joinF (ps.take x.1)).map nF)]) (fun x => [(3, .sl 7 (l.map nF)), (4, .sl 1 (ps.map nds)), (5, .val (.int .i64 ps.length)), (7, .row 0 0), (8, .val (.int .i64 x.1))]) (fun x => ps.length - x.1) ⟨0, Nat.zero_le _⟩ (fits_conv (by repeat' first | exact trivial | exact rfl | (rw [List.map_append]; first | done | rfl) | exact c_sub rfl (Sub.refl _) rfl | exact c_nil rfl rfl | exact c_thaw rfl rfl rfl | exact c_row rfl rfl rfl | exact c_row rfl rfl (by rw [List.map_append]; first | done | rfl) | exact c_ptr rfl rfl rfl rfl | exact Or.inl ⟨c_sub rfl (Sub.refl _) rfl, c_ptr rfl rfl rfl rfl⟩ | exact c_alt rfl rfl rfl rfl | exact c_ro rfl rfl | exact c_eo rfl rfl | exact c_sub rfl (Sub.altl _ _) rfl | exact c_sub rfl (Sub.nil _) rfl | refine ⟨_, _, rfl, ?_, ?_⟩ | apply And.intro) ⟨c_sub rfl (Sub.refl _) rfl, c_sub rfl (Sub.refl _) rfl, c_sub rfl (Sub.refl _) rfl, c_nil rfl rfl, c_sub rfl (Sub.refl _) rfl, trivial⟩) ?_
    rintro ⟨k, hk⟩
    dsimp only
    have hjl := joinF_take_len ps k
    rw [hjoin] at hjl
    have hjm : ((joinF (ps.take k)).map nF).length = (joinF (ps.take k)).length := List.length_map _
    repeat (first
      | refine awp_seq ?_
      | refine thenA_normal ?_
      | refine a_region ?_
      | refine r_done ?_
      | (refine r_id ?_; first
        | refine r_len tab_ok rfl rfl rfl rfl rfl rfl rfl ?_
        | refine r_ev tab_ok rfl rfl rfl rfl (by first | exact trivial | exact ⟨by omega, by omega⟩ | omega | exact ⟨by omega, by omega, by omega, by omega⟩ | exact Nat.le_of_ble_eq_true rfl) rfl ?_))
    refine awp_cond_p rfl (fun hlt => ?_) (fun hge => ?_)
    · have hlt' : k < ps.length := by omega
      have hk' : ((k : Nat) : Int).toNat < ps.length := by rw [Int.toNat_natCast]; exact hlt'
      have hjl2 := joinF_take_len ps (k + 1)
      rw [hjoin] at hjl2
      have hkm : ((ps[((k : Nat) : Int).toNat]'hk').map nF).length = ps[k].length := by rw [List.length_map]; simp only [Int.toNat_natCast]
      repeat (first
        | refine awp_seq ?_
        | refine thenA_normal ?_
        | refine awp_block ?_
        | refine a_region ?_
        | refine awp_skip ?_
        | refine r_done ?_
        | (refine r_id ?_; first
          | refine r_ev tab_ok rfl rfl rfl rfl (by first | exact trivial | exact ⟨by omega, by omega⟩ | omega | exact ⟨by omega, by omega, by omega, by omega⟩ | exact Nat.le_of_ble_eq_true rfl) rfl ?_))
      refine awp_cond_p rfl (fun h0 => ?_) (fun h0 => ?_)
      · have hn := joinF_next hlt' (by omega)
        have hnl := congrArg List.length hn
        rw [List.length_append, List.length_cons] at hnl
        repeat (first
          | refine thenA_normal ?_
          | refine a_region ?_
          | refine r_done ?_
          | (refine r_id ?_; first
            | refine r_ev tab_ok rfl rfl rfl rfl (by first | exact trivial | exact ⟨by omega, by omega⟩ | omega | exact ⟨by omega, by omega, by omega, by omega⟩ | exact Nat.le_of_ble_eq_true rfl) rfl ?_
            | refine r_idx tab_ok rfl rfl rfl rfl rfl rfl rfl (by first | exact ⟨by omega, by omega⟩ | (simp; omega)) rfl rfl ?_
            | refine r_build tab_ok rfl rfl rfl rfl rfl rfl ?_
            | refine r_built tab_ok rfl rfl rfl rfl rfl rfl rfl rfl rfl ?_
            | refine r_append tab_ok rfl rfl rfl rfl rfl rfl rfl rfl rfl (by first | omega | (simp; omega)) rfl ?_))
        have e1 : (joinF (ps.take k)).map nF ++ [cD] ++ (ps[((k : Nat) : Int).toNat]'hk').map nF = (joinF (ps.take k)).map nF ++ cD :: ps[k].map nF := by simp
        have e2 : (joinF (ps.take (k + 1))).map nF = (joinF (ps.take k)).map nF ++ nF cm :: ps[k].map nF := by rw [hn, List.map_append, List.map_cons]
        refine ⟨⟨k + 1, hlt'⟩, by dsimp only; omega, ?_⟩
        dsimp only
        refine fits_trans (s' := ⟨[.row 0 36 7 ((joinF (ps.take k)).map nF ++ cD :: ps[k].map nF)], [(3, .sl 7 (l.map nF)), (4, .sl 1 (ps.map nds)), (5, .val (.int .i64 ps.length)), (7, .row 0 0), (8, .val (.int .i64 ((k + 1 : Nat) : Int)))]⟩) ?_ ?_
        · rw [← e1]
          exact fits_conv (by repeat' first | exact trivial | exact rfl | (rw [List.map_append]; first | done | rfl) | exact c_sub rfl (Sub.refl _) rfl | exact c_nil rfl rfl | exact c_thaw rfl rfl rfl | exact c_row rfl rfl rfl | exact c_row rfl rfl (by rw [List.map_append]; first | done | rfl) | exact c_ptr rfl rfl rfl rfl | exact Or.inl ⟨c_sub rfl (Sub.refl _) rfl, c_ptr rfl rfl rfl rfl⟩ | exact c_alt rfl rfl rfl rfl | exact c_ro rfl rfl | exact c_eo rfl rfl | exact c_sub rfl (Sub.altl _ _) rfl | exact c_sub rfl (Sub.nil _) rfl | refine ⟨_, _, rfl, ?_, ?_⟩ | apply And.intro) (by repeat' first | exact trivial | exact rfl | (rw [List.map_append]; first | done | rfl) | exact c_sub rfl (Sub.refl _) rfl | exact c_nil rfl rfl | exact c_thaw rfl rfl rfl | exact c_row rfl rfl rfl | exact c_row rfl rfl (by rw [List.map_append]; first | done | rfl) | exact c_ptr rfl rfl rfl rfl | exact Or.inl ⟨c_sub rfl (Sub.refl _) rfl, c_ptr rfl rfl rfl rfl⟩ | exact c_alt rfl rfl rfl rfl | exact c_ro rfl rfl | exact c_eo rfl rfl | exact c_sub rfl (Sub.altl _ _) rfl | exact c_sub rfl (Sub.nil _) rfl | refine ⟨_, _, rfl, ?_, ?_⟩ | apply And.intro)
        · rw [e2]
          exact fits_rowD (i := 0) (M := [.row 0 36 7 ((joinF (ps.take k)).map nF ++ cD :: ps[k].map nF)]) (es' := (joinF (ps.take k)).map nF ++ nF cm :: ps[k].map nF) rfl (by simp) (by rw [← e2]; exact nF_w _) fun w imm cs => denCs_mid fun cs => cD_sub
      · have e : k = 0 := by omega
        subst e
        have hn := joinF_one hlt'
        have hnl := congrArg List.length hn
        repeat (first
          | refine thenA_normal ?_
          | refine a_region ?_
          | refine awp_skip ?_
          | (refine r_id ?_; first
            | refine r_ev tab_ok rfl rfl rfl rfl (by first | exact trivial | exact ⟨by omega, by omega⟩ | omega | exact ⟨by omega, by omega, by omega, by omega⟩ | exact Nat.le_of_ble_eq_true rfl) rfl ?_
            | refine r_idx tab_ok rfl rfl rfl rfl rfl rfl rfl (by first | exact ⟨by omega, by omega⟩ | (simp; omega)) rfl rfl ?_))
        have hjl3 := joinF_take_len ps 1
        rw [hjoin] at hjl3
        have hb : ps[((0 : Nat) : Int).toNat]'hk' = joinF (ps.take 1) := hn.symm
        refine r_append tab_ok rfl rfl rfl rfl rfl rfl rfl rfl rfl (by rw [hkm]; show (0 + ps[0].length) * 64 ≤ 140737488355328; omega) rfl ?_
        repeat (first
          | refine thenA_normal ?_
          | refine a_region ?_
          | refine r_done ?_
          | (refine r_id ?_; first
            | refine r_ev tab_ok rfl rfl rfl rfl (by first | exact trivial | exact ⟨by omega, by omega⟩ | omega | exact ⟨by omega, by omega, by omega, by omega⟩ | exact Nat.le_of_ble_eq_true rfl) rfl ?_))
        refine ⟨⟨1, hlt'⟩, by dsimp only; omega, ?_⟩
        dsimp only
        rw [← hb]
        exact fits_conv (by repeat' first | exact trivial | exact rfl | (rw [List.map_append]; first | done | rfl) | exact c_sub rfl (Sub.refl _) rfl | exact c_nil rfl rfl | exact c_thaw rfl rfl rfl | exact c_row rfl rfl rfl | exact c_row rfl rfl (by rw [List.map_append]; first | done | rfl) | exact c_ptr rfl rfl rfl rfl | exact Or.inl ⟨c_sub rfl (Sub.refl _) rfl, c_ptr rfl rfl rfl rfl⟩ | exact c_alt rfl rfl rfl rfl | exact c_ro rfl rfl | exact c_eo rfl rfl | exact c_sub rfl (Sub.altl _ _) rfl | exact c_sub rfl (Sub.nil _) rfl | refine ⟨_, _, rfl, ?_, ?_⟩ | apply And.intro) (by repeat' first | exact trivial | exact rfl | (rw [List.map_append]; first | done | rfl) | exact c_sub rfl (Sub.refl _) rfl | exact c_nil rfl rfl | exact c_thaw rfl rfl rfl | exact c_row rfl rfl rfl | exact c_row rfl rfl (by rw [List.map_append]; first | done | rfl) | exact c_ptr rfl rfl rfl rfl | exact Or.inl ⟨c_sub rfl (Sub.refl _) rfl, c_ptr rfl rfl rfl rfl⟩ | exact c_alt rfl rfl rfl rfl | exact c_ro rfl rfl | exact c_eo rfl rfl | exact c_sub rfl (Sub.altl _ _) rfl | exact c_sub rfl (Sub.nil _) rfl | refine ⟨_, _, rfl, ?_, ?_⟩ | apply And.intro)
    · rw [List.take_of_length_le (by omega : ps.length ≤ k), hjoin]
      have hrsame : PCalls Try.prog 14 [.sl 7 (l.map nF), .sl 7 (l.map nF)] (.val (.bool true)) := by
        have := refSame_ok 1000 l l (by omega) (by decide)
        rw [sameL_self] at this
        exact this
      refine awp_fits (s' := ⟨[.gone], [(3, .sl 7 (l.map nF)), (4, .sl 1 (ps.map nds)), (5, .val (.int .i64 ps.length)), (7, .sl 7 (l.map nF))]⟩) (fits_conv (by repeat' first | exact trivial | exact rfl | (rw [List.map_append]; first | done | rfl) | exact c_sub rfl (Sub.refl _) rfl | exact c_nil rfl rfl | exact c_thaw rfl rfl rfl | exact c_row rfl rfl rfl | exact c_row rfl rfl (by rw [List.map_append]; first | done | rfl) | exact c_ptr rfl rfl rfl rfl | exact Or.inl ⟨c_sub rfl (Sub.refl _) rfl, c_ptr rfl rfl rfl rfl⟩ | exact c_alt rfl rfl rfl rfl | exact c_ro rfl rfl | exact c_eo rfl rfl | exact c_sub rfl (Sub.altl _ _) rfl | exact c_sub rfl (Sub.nil _) rfl | refine ⟨_, _, rfl, ?_, ?_⟩ | apply And.intro) (by repeat' first | exact trivial | exact rfl | (rw [List.map_append]; first | done | rfl) | exact c_sub rfl (Sub.refl _) rfl | exact c_nil rfl rfl | exact c_thaw rfl rfl rfl | exact c_row rfl rfl rfl | exact c_row rfl rfl (by rw [List.map_append]; first | done | rfl) | exact c_ptr rfl rfl rfl rfl | exact Or.inl ⟨c_sub rfl (Sub.refl _) rfl, c_ptr rfl rfl rfl rfl⟩ | exact c_alt rfl rfl rfl rfl | exact c_ro rfl rfl | exact c_eo rfl rfl | exact c_sub rfl (Sub.altl _ _) rfl | exact c_sub rfl (Sub.nil _) rfl | refine ⟨_, _, rfl, ?_, ?_⟩ | apply And.intro)) ?_
      repeat (first
        | refine awp_seq ?_
        | refine a_region ?_
        | refine awp_exit ?_
        | (refine r_id ?_; first
          | refine r_len tab_ok rfl rfl rfl rfl rfl rfl rfl ?_
          | refine r_ev tab_ok rfl rfl rfl rfl (by first | exact trivial | exact ⟨by omega, by omega⟩ | omega | exact ⟨by omega, by omega, by omega, by omega⟩ | exact Nat.le_of_ble_eq_true rfl) rfl ?_)
        | refine r_g rfl rfl (congrArg (fun b => AV.val (.bool b)) (decide_eq_true (by omega))) ?_)
      refine r_call hrsame call14 rfl rfl ⟨Sub.refl _, Sub.refl _, trivial⟩ rfl rfl rfl rfl ?_
      repeat (first
        | (refine r_id ?_; first
          | refine r_ev tab_ok rfl rfl rfl rfl (by first | exact trivial | exact ⟨by omega, by omega⟩ | omega | exact ⟨by omega, by omega, by omega, by omega⟩ | exact Nat.le_of_ble_eq_true rfl) rfl ?_)
        | refine r_g rfl rfl rfl ?_
        | refine r_pick_t rfl rfl (congrArg (fun b => AV.val (.bool b)) (decide_eq_true (by omega))) rfl rfl rfl rfl ?_)
      refine r_call awake_ok call8 rfl rfl trivial rfl rfl rfl rfl ?_
      repeat (first
        | refine thenA_normal ?_
        | refine awp_ret ?_
        | refine r_done ?_
        | (refine r_id ?_; first
          | refine r_ev tab_ok rfl rfl rfl rfl (by first | exact trivial | exact ⟨by omega, by omega⟩ | omega | exact ⟨by omega, by omega, by omega, by omega⟩ | exact Nat.le_of_ble_eq_true rfl) rfl ?_
          | refine r_pick_t rfl rfl rfl rfl rfl rfl rfl ?_)
        | refine ret1 (by first | exact .inl rfl | exact .inr rfl) rfl rfl rfl ?_)
      exact Sub.refl _
end Go.Proofs.Ytogjmafjoliimaa
