/- define: padOf, fallbackOf, symbolsOf, rangeOf; walked. -/
import Derived.Test.YtllmagfmbglefaaDoorI2
namespace Go.Proofs.YtllmagfmbglefaaDoor
open Go Go.RowKit
set_option maxRecDepth 20000

def padF (S : Sd) (l : List Nd) : Sd × Bool := if (weiF l).2 then ({ S with pad := (weiF l).1.1, padSign := (weiF l).1.2, said := S.said ||| 16 }, true) else (S, false)
set_option maxHeartbeats 4000000 in
theorem pad_ok (S0 : Sd) (l : List Nd) (hl : l.length ≤ 1099511627776) (hS : S0.said < 1000) : vo Tryd.prog 90 [sdB S0] [.ptr 0 0, .sl 7 (l.map nF)] [sdB (padF S0 l).1] (.val (.bool (padF S0 l).2)) := by
  refine wL Tryd.func90 Tryd.ntmps90 rfl rfl rfl fun S w β => ?_
  rw [padF]
  repeat (first | refine uf ?_ | refine ud ?_ | refine ug ?_ | (refine uk ?_; first | refine ul tab_ok rfl rfl rfl rfl (by first | exact trivial | omega | exact nl rfl) rfl ?_))
  refine um (weighed_ok l hl) call119 rfl rfl ⟨Sub.refl _, trivial⟩ rfl rfl rfl rfl ?_
  cases hb : (weiF l).2 with
  | true =>
    rw [if_pos rfl]
    repeat (first | refine uf ?_ | refine uc ?_ | refine ud ?_ | refine ug ?_ | (refine uk ?_; first | refine ul tab_ok rfl rfl rfl rfl (by first | exact trivial | omega | exact nl rfl) rfl ?_ | refine u9 tab_ok rfl rfl rfl rfl rfl ?_ | refine u3 tab_ok rfl rfl rfl rfl ?_ | refine uS rfl rfl rfl rfl rfl rfl rfl ?_) | refine uA rfl ?_)
    refine kv rfl rfl rfl rfl (by omega) (by decide) rfl rfl rfl ?_
    repeat (first | refine uf ?_ | refine uc ?_ | refine ud ?_ | refine un ?_ | refine ug ?_ | (refine uk ?_; first | refine ul tab_ok rfl rfl rfl rfl (by first | exact trivial | omega | exact nl rfl) rfl ?_ | refine u3 tab_ok rfl rfl rfl rfl ?_ | refine uS rfl rfl rfl rfl rfl rfl rfl ?_))
    exact vB [sdB { S0 with pad := (weiF l).1.1, padSign := (weiF l).1.2, said := S0.said ||| 16 }] [(4, .val (.bool true))] (uv (by repeat' first | exact trivial | exact rfl | (rw [List.map_append]; first | done | rfl) | exact ue rfl (Sub.refl _) rfl | exact ut rfl rfl | exact uo rfl rfl rfl | exact uj rfl rfl rfl | exact uj rfl rfl (by rw [List.map_append]; first | done | rfl) | exact uh rfl rfl rfl rfl | exact Or.inl ⟨ue rfl (Sub.refl _) rfl, uh rfl rfl rfl rfl⟩ | exact uu rfl rfl rfl rfl | exact uC rfl rfl | exact uD rfl rfl | exact ue rfl (Sub.altl _ _) rfl | exact ue rfl (Sub.nil _) rfl | refine ⟨_, _, rfl, ?_, ?_⟩ | apply And.intro) (by repeat' first | exact trivial | exact rfl | (rw [List.map_append]; first | done | rfl) | exact ue rfl (Sub.refl _) rfl | exact ut rfl rfl | exact uo rfl rfl rfl | exact uj rfl rfl rfl | exact uj rfl rfl (by rw [List.map_append]; first | done | rfl) | exact uh rfl rfl rfl rfl | exact Or.inl ⟨ue rfl (Sub.refl _) rfl, uh rfl rfl rfl rfl⟩ | exact uu rfl rfl rfl rfl | exact uC rfl rfl | exact uD rfl rfl | exact ue rfl (Sub.altl _ _) rfl | exact ue rfl (Sub.nil _) rfl | refine ⟨_, _, rfl, ?_, ?_⟩ | apply And.intro) ⟨trivial, trivial⟩) (by simp) rfl rfl rfl rfl rfl (Sub.refl _)
  | false =>
    rw [if_neg Bool.false_ne_true]
    repeat (first | refine uf ?_ | refine uc ?_ | refine ud ?_ | refine un ?_ | refine uq ?_ | refine ug ?_ | (refine uk ?_; first | refine ul tab_ok rfl rfl rfl rfl (by first | exact trivial | omega | exact nl rfl) rfl ?_) | refine uF rfl ?_)
    exact vB [sdB S0] [(4, .val (.bool false))] (uv (by repeat' first | exact trivial | exact rfl | (rw [List.map_append]; first | done | rfl) | exact ue rfl (Sub.refl _) rfl | exact ut rfl rfl | exact uo rfl rfl rfl | exact uj rfl rfl rfl | exact uj rfl rfl (by rw [List.map_append]; first | done | rfl) | exact uh rfl rfl rfl rfl | exact Or.inl ⟨ue rfl (Sub.refl _) rfl, uh rfl rfl rfl rfl⟩ | exact uu rfl rfl rfl rfl | exact uC rfl rfl | exact uD rfl rfl | exact ue rfl (Sub.altl _ _) rfl | exact ue rfl (Sub.nil _) rfl | refine ⟨_, _, rfl, ?_, ?_⟩ | apply And.intro) (by repeat' first | exact trivial | exact rfl | (rw [List.map_append]; first | done | rfl) | exact ue rfl (Sub.refl _) rfl | exact ut rfl rfl | exact uo rfl rfl rfl | exact uj rfl rfl rfl | exact uj rfl rfl (by rw [List.map_append]; first | done | rfl) | exact uh rfl rfl rfl rfl | exact Or.inl ⟨ue rfl (Sub.refl _) rfl, uh rfl rfl rfl rfl⟩ | exact uu rfl rfl rfl rfl | exact uC rfl rfl | exact uD rfl rfl | exact ue rfl (Sub.altl _ _) rfl | exact ue rfl (Sub.nil _) rfl | refine ⟨_, _, rfl, ?_, ?_⟩ | apply And.intro) ⟨trivial, trivial⟩) (by simp) rfl rfl rfl rfl rfl (Sub.refl _)
def falF (S : Sd) (l : List Nd) : Sd × Bool := if (nmF l).2 then ({ S with fall := (nmF l).1, said := S.said ||| 32 }, true) else (S, false)
set_option maxHeartbeats 4000000 in
theorem fallback_ok (S0 : Sd) (l : List Nd) (hl : vu l < 1099511627776) (ht : ∀ n ∈ l, n.tok.text.size ≤ 1099511627776) (hS : S0.said < 1000) : vo Tryd.prog 91 [sdB S0] [.ptr 0 0, .sl 7 (l.map nF)] [sdB (falF S0 l).1] (.val (.bool (falF S0 l).2)) := by
  refine wL Tryd.func91 Tryd.ntmps91 rfl rfl rfl fun S w β => ?_
  rw [falF]
  repeat (first | refine uf ?_ | refine ud ?_ | refine ug ?_ | (refine uk ?_; first | refine ul tab_ok rfl rfl rfl rfl (by first | exact trivial | omega | exact nl rfl) rfl ?_))
  refine um (qH l hl ht) vl rfl rfl ⟨Sub.refl _, trivial⟩ rfl rfl rfl rfl ?_
  cases hb : (nmF l).2 with
  | true =>
    rw [if_pos rfl]
    repeat (first | refine uf ?_ | refine uc ?_ | refine ud ?_ | refine ug ?_ | (refine uk ?_; first | refine ul tab_ok rfl rfl rfl rfl (by first | exact trivial | omega | exact nl rfl) rfl ?_ | refine u9 tab_ok rfl rfl rfl rfl rfl ?_ | refine u3 tab_ok rfl rfl rfl rfl ?_ | refine uS rfl rfl rfl rfl rfl rfl rfl ?_) | refine uA rfl ?_)
    refine kv rfl rfl rfl rfl (by omega) (by decide) rfl rfl rfl ?_
    repeat (first | refine uf ?_ | refine uc ?_ | refine ud ?_ | refine un ?_ | refine ug ?_ | (refine uk ?_; first | refine ul tab_ok rfl rfl rfl rfl (by first | exact trivial | omega | exact nl rfl) rfl ?_ | refine u3 tab_ok rfl rfl rfl rfl ?_ | refine uS rfl rfl rfl rfl rfl rfl rfl ?_))
    exact vB [sdB { S0 with fall := (nmF l).1, said := S0.said ||| 32 }] [(4, .val (.bool true))] (uv (by repeat' first | exact trivial | exact rfl | (rw [List.map_append]; first | done | rfl) | exact ue rfl (Sub.refl _) rfl | exact ut rfl rfl | exact uo rfl rfl rfl | exact uj rfl rfl rfl | exact uj rfl rfl (by rw [List.map_append]; first | done | rfl) | exact uh rfl rfl rfl rfl | exact Or.inl ⟨ue rfl (Sub.refl _) rfl, uh rfl rfl rfl rfl⟩ | exact uu rfl rfl rfl rfl | exact uC rfl rfl | exact uD rfl rfl | exact ue rfl (Sub.altl _ _) rfl | exact ue rfl (Sub.nil _) rfl | refine ⟨_, _, rfl, ?_, ?_⟩ | apply And.intro) (by repeat' first | exact trivial | exact rfl | (rw [List.map_append]; first | done | rfl) | exact ue rfl (Sub.refl _) rfl | exact ut rfl rfl | exact uo rfl rfl rfl | exact uj rfl rfl rfl | exact uj rfl rfl (by rw [List.map_append]; first | done | rfl) | exact uh rfl rfl rfl rfl | exact Or.inl ⟨ue rfl (Sub.refl _) rfl, uh rfl rfl rfl rfl⟩ | exact uu rfl rfl rfl rfl | exact uC rfl rfl | exact uD rfl rfl | exact ue rfl (Sub.altl _ _) rfl | exact ue rfl (Sub.nil _) rfl | refine ⟨_, _, rfl, ?_, ?_⟩ | apply And.intro) ⟨trivial, trivial⟩) (by simp) rfl rfl rfl rfl rfl (Sub.refl _)
  | false =>
    rw [if_neg Bool.false_ne_true]
    repeat (first | refine uf ?_ | refine uc ?_ | refine ud ?_ | refine un ?_ | refine uq ?_ | refine ug ?_ | (refine uk ?_; first | refine ul tab_ok rfl rfl rfl rfl (by first | exact trivial | omega | exact nl rfl) rfl ?_) | refine uF rfl ?_)
    exact vB [sdB S0] [(4, .val (.bool false))] (uv (by repeat' first | exact trivial | exact rfl | (rw [List.map_append]; first | done | rfl) | exact ue rfl (Sub.refl _) rfl | exact ut rfl rfl | exact uo rfl rfl rfl | exact uj rfl rfl rfl | exact uj rfl rfl (by rw [List.map_append]; first | done | rfl) | exact uh rfl rfl rfl rfl | exact Or.inl ⟨ue rfl (Sub.refl _) rfl, uh rfl rfl rfl rfl⟩ | exact uu rfl rfl rfl rfl | exact uC rfl rfl | exact uD rfl rfl | exact ue rfl (Sub.altl _ _) rfl | exact ue rfl (Sub.nil _) rfl | refine ⟨_, _, rfl, ?_, ?_⟩ | apply And.intro) (by repeat' first | exact trivial | exact rfl | (rw [List.map_append]; first | done | rfl) | exact ue rfl (Sub.refl _) rfl | exact ut rfl rfl | exact uo rfl rfl rfl | exact uj rfl rfl rfl | exact uj rfl rfl (by rw [List.map_append]; first | done | rfl) | exact uh rfl rfl rfl rfl | exact Or.inl ⟨ue rfl (Sub.refl _) rfl, uh rfl rfl rfl rfl⟩ | exact uu rfl rfl rfl rfl | exact uC rfl rfl | exact uD rfl rfl | exact ue rfl (Sub.altl _ _) rfl | exact ue rfl (Sub.nil _) rfl | refine ⟨_, _, rfl, ?_, ?_⟩ | apply And.intro) ⟨trivial, trivial⟩) (by simp) rfl rfl rfl rfl rfl (Sub.refl _)
def qt : List Nd → List ByteArray → Option (List ByteArray)
  | [], acc => some acc
  | n :: r, acc => if (w8 n).2 then qt r (acc ++ [(w8 n).1]) else none
def ks (S : Sd) (l : List Nd) : Sd × Bool :=
  match qt l [] with
  | none => (S, false)
  | some a => ({ S with syms := a, symbolic := true }, true)
structure SyS (l : List Nd) where
  i : Nat
  acc : List ByteArray
  hi : i ≤ l.length
  ha : acc.length ≤ i
  eq : qt (l.drop i) acc = qt l []
set_option maxHeartbeats 4000000 in
theorem symbols_ok (S0 : Sd) (l : List Nd) (hl : l.length ≤ 1099511627776) : vo Tryd.prog 92 [sdB S0] [.ptr 0 0, .sl 7 (l.map nF)] [sdB (ks S0 l).1] (.val (.bool (ks S0 l).2)) := by
  have hlm : (l.map nF).length = l.length := List.length_map _
  refine wL Tryd.func92 Tryd.ntmps92 rfl rfl rfl fun S w β => ?_
  rw [ks]
  repeat (first | refine uf ?_ | refine uc ?_ | refine uw ?_ | refine ud ?_ | refine ug ?_ | (refine uk ?_; first | refine vf tab_ok rfl rfl rfl rfl rfl rfl rfl ?_ | refine ul tab_ok rfl rfl rfl rfl (by first | exact trivial | omega | exact nl rfl) rfl ?_))
  refine vk (σ := SyS l) (fun x => [sdB S0, .row 0 9 1 (x.acc.map sF)]) (fun x => [(0, .ptr 0 0), (5, .row 1 0), (10, .sl 7 (l.map nF)), (11, .val (.int .i64 l.length)), (12, .val (.int .i64 x.i))]) (fun x => l.length - x.i) ⟨0, [], Nat.zero_le _, Nat.le_refl _, rfl⟩ (uv (by repeat' first | exact trivial | exact rfl | (rw [List.map_append]; first | done | rfl) | exact ue rfl (Sub.refl _) rfl | exact ut rfl rfl | exact uo rfl rfl rfl | exact uj rfl rfl rfl | exact uj rfl rfl (by rw [List.map_append]; first | done | rfl) | exact uh rfl rfl rfl rfl | exact Or.inl ⟨ue rfl (Sub.refl _) rfl, uh rfl rfl rfl rfl⟩ | exact uu rfl rfl rfl rfl | exact uC rfl rfl | exact uD rfl rfl | exact ue rfl (Sub.altl _ _) rfl | exact ue rfl (Sub.nil _) rfl | refine ⟨_, _, rfl, ?_, ?_⟩ | apply And.intro) ⟨uh rfl rfl rfl rfl, ut rfl rfl, ue rfl (Sub.refl _) rfl, ue rfl (Sub.refl _) rfl, ue rfl (Sub.refl _) rfl, trivial⟩ ⟨trivial, trivial⟩) ?_
  rintro ⟨i, acc, hi, ha, heq⟩
  dsimp only
  rw [← heq]
  have hal : (acc.map sF).length = acc.length := List.length_map _
  repeat (first | refine uf ?_ | refine ud ?_ | refine ug ?_ | (refine uk ?_; first | refine ul tab_ok rfl rfl rfl rfl (by first | exact trivial | omega | exact nl rfl) rfl ?_))
  refine uz rfl (fun hlt => ?_) (fun hge => ?_)
  · have hi' : i < l.length := by omega
    have hin : ((i : Nat) : Int).toNat < l.length := by simp only [Int.toNat_natCast]; exact hi'
    have hdr : l.drop i = l[i] :: l.drop (i + 1) := List.drop_eq_getElem_cons hi'
    rw [hdr] at heq ⊢
    repeat (first | refine uf ?_ | refine uw ?_ | refine ud ?_ | refine uq ?_ | refine ug ?_ | (refine uk ?_; first | refine ul tab_ok rfl rfl rfl rfl (by first | exact trivial | omega | exact nl rfl) rfl ?_ | refine u9 tab_ok rfl rfl rfl rfl rfl ?_ | refine wk tab_ok rfl rfl rfl rfl rfl rfl rfl (by first | exact ⟨by omega, by omega⟩ | (simp; omega)) rfl rfl ?_ | refine vI tab_ok rfl rfl rfl rfl rfl ?_ | refine u3 tab_ok rfl rfl rfl rfl ?_))
    simp only [Int.toNat_natCast]
    refine um (xi l[i]) zM rfl rfl ⟨Sub.refl _, trivial⟩ rfl rfl rfl rfl ?_
    cases hb : (w8 l[i]).2 with
    | false =>
      rw [show qt (l[i] :: l.drop (i + 1)) acc = none by rw [qt, hb, if_neg Bool.false_ne_true]]
      repeat (first | refine uf ?_ | refine uc ?_ | refine ud ?_ | refine un ?_ | refine ur ?_ | refine uE ?_ | refine ug ?_ | (refine uk ?_; first | refine ul tab_ok rfl rfl rfl rfl (by first | exact trivial | omega | exact nl rfl) rfl ?_) | refine uA rfl ?_)
      exact vB [sdB S0, .gone, .gone] [(4, .val (.bool false))] (uv (by repeat' first | exact trivial | exact rfl | (rw [List.map_append]; first | done | rfl) | exact ue rfl (Sub.refl _) rfl | exact ut rfl rfl | exact uo rfl rfl rfl | exact uj rfl rfl rfl | exact uj rfl rfl (by rw [List.map_append]; first | done | rfl) | exact uh rfl rfl rfl rfl | exact Or.inl ⟨ue rfl (Sub.refl _) rfl, uh rfl rfl rfl rfl⟩ | exact uu rfl rfl rfl rfl | exact uC rfl rfl | exact uD rfl rfl | exact ue rfl (Sub.altl _ _) rfl | exact ue rfl (Sub.nil _) rfl | refine ⟨_, _, rfl, ?_, ?_⟩ | apply And.intro) (by repeat' first | exact trivial | exact rfl | (rw [List.map_append]; first | done | rfl) | exact ue rfl (Sub.refl _) rfl | exact ut rfl rfl | exact uo rfl rfl rfl | exact uj rfl rfl rfl | exact uj rfl rfl (by rw [List.map_append]; first | done | rfl) | exact uh rfl rfl rfl rfl | exact Or.inl ⟨ue rfl (Sub.refl _) rfl, uh rfl rfl rfl rfl⟩ | exact uu rfl rfl rfl rfl | exact uC rfl rfl | exact uD rfl rfl | exact ue rfl (Sub.altl _ _) rfl | exact ue rfl (Sub.nil _) rfl | refine ⟨_, _, rfl, ?_, ?_⟩ | apply And.intro) ⟨trivial, trivial⟩) (by simp) rfl rfl rfl rfl rfl (Sub.refl _)
    | true =>
      repeat (first | refine uf ?_ | refine uc ?_ | refine ud ?_ | refine uq ?_ | refine ug ?_ | (refine uk ?_; first | refine ul tab_ok rfl rfl rfl rfl (by first | exact trivial | omega | exact nl rfl) rfl ?_ | refine vd tab_ok rfl rfl rfl rfl rfl rfl rfl rfl rfl ?_ | refine vT tab_ok rfl rfl rfl rfl rfl rfl rfl rfl rfl (by first | omega | (simp; omega)) rfl ?_) | refine uF rfl ?_)
      refine ⟨⟨i + 1, acc ++ [(w8 l[i]).1], hi', by simp; omega, by rw [← heq, qt, hb, if_pos rfl]⟩, by dsimp only; omega, ?_⟩
      dsimp only
      rw [show (acc ++ [((w8 l[i]).1 : ByteArray)]).map sF = acc.map sF ++ [sF (w8 l[i]).1] from List.map_append]
      exact wu (s' := ⟨[sdB S0, .row 0 9 1 (acc.map sF ++ [sF (w8 l[i]).1]), .gone], [(0, .ptr 0 0), (5, .row 1 0), (10, .sl 7 (l.map nF)), (11, .val (.int .i64 l.length)), (12, .val (.int .i64 (i + 1 : Nat)))]⟩) (uv (by repeat' first | exact trivial | exact rfl | (rw [List.map_append]; first | done | rfl) | exact ue rfl (Sub.refl _) rfl | exact ut rfl rfl | exact uo rfl rfl rfl | exact uj rfl rfl rfl | exact uj rfl rfl (by rw [List.map_append]; first | done | rfl) | exact uh rfl rfl rfl rfl | exact Or.inl ⟨ue rfl (Sub.refl _) rfl, uh rfl rfl rfl rfl⟩ | exact uu rfl rfl rfl rfl | exact uC rfl rfl | exact uD rfl rfl | exact ue rfl (Sub.altl _ _) rfl | exact ue rfl (Sub.nil _) rfl | refine ⟨_, _, rfl, ?_, ?_⟩ | apply And.intro) (by repeat' first | exact trivial | exact rfl | (rw [List.map_append]; first | done | rfl) | exact ue rfl (Sub.refl _) rfl | exact ut rfl rfl | exact uo rfl rfl rfl | exact uj rfl rfl rfl | exact uj rfl rfl (by rw [List.map_append]; first | done | rfl) | exact uh rfl rfl rfl rfl | exact Or.inl ⟨ue rfl (Sub.refl _) rfl, uh rfl rfl rfl rfl⟩ | exact uu rfl rfl rfl rfl | exact uC rfl rfl | exact uD rfl rfl | exact ue rfl (Sub.altl _ _) rfl | exact ue rfl (Sub.nil _) rfl | refine ⟨_, _, rfl, ?_, ?_⟩ | apply And.intro) ⟨trivial, trivial⟩) (vz 2 rfl rfl (by repeat' first | exact trivial | exact Sub.refl _ | exact rfl | apply And.intro))
  · have : i = l.length := by omega
    subst this
    rw [show qt (l.drop l.length) acc = some acc by rw [List.drop_length, qt]]
    repeat (first | refine uf ?_ | refine uP ?_)
    refine vM (s' := ⟨[sdB S0, .gone], [(0, .ptr 0 0), (5, .sl 1 (acc.map sF))]⟩) (uv (by repeat' first | exact trivial | exact rfl | (rw [List.map_append]; first | done | rfl) | exact ue rfl (Sub.refl _) rfl | exact ut rfl rfl | exact uo rfl rfl rfl | exact uj rfl rfl rfl | exact uj rfl rfl (by rw [List.map_append]; first | done | rfl) | exact uh rfl rfl rfl rfl | exact Or.inl ⟨ue rfl (Sub.refl _) rfl, uh rfl rfl rfl rfl⟩ | exact uu rfl rfl rfl rfl | exact uC rfl rfl | exact uD rfl rfl | exact ue rfl (Sub.altl _ _) rfl | exact ue rfl (Sub.nil _) rfl | refine ⟨_, _, rfl, ?_, ?_⟩ | apply And.intro) ⟨uh rfl rfl rfl rfl, uo rfl rfl rfl, trivial⟩ ⟨trivial, trivial⟩) ?_
    repeat (first | refine uf ?_ | refine uc ?_ | refine ud ?_ | refine un ?_ | refine ug ?_ | (refine uk ?_; first | refine ul tab_ok rfl rfl rfl rfl (by first | exact trivial | omega | exact nl rfl) rfl ?_ | refine u3 tab_ok rfl rfl rfl rfl ?_ | refine uS rfl rfl rfl rfl rfl rfl rfl ?_))
    exact vB [sdB { S0 with syms := acc, symbolic := true }, .gone] [(4, .val (.bool true))] (uv (by repeat' first | exact trivial | exact rfl | (rw [List.map_append]; first | done | rfl) | exact ue rfl (Sub.refl _) rfl | exact ut rfl rfl | exact uo rfl rfl rfl | exact uj rfl rfl rfl | exact uj rfl rfl (by rw [List.map_append]; first | done | rfl) | exact uh rfl rfl rfl rfl | exact Or.inl ⟨ue rfl (Sub.refl _) rfl, uh rfl rfl rfl rfl⟩ | exact uu rfl rfl rfl rfl | exact uC rfl rfl | exact uD rfl rfl | exact ue rfl (Sub.altl _ _) rfl | exact ue rfl (Sub.nil _) rfl | refine ⟨_, _, rfl, ?_, ?_⟩ | apply And.intro) (by repeat' first | exact trivial | exact rfl | (rw [List.map_append]; first | done | rfl) | exact ue rfl (Sub.refl _) rfl | exact ut rfl rfl | exact uo rfl rfl rfl | exact uj rfl rfl rfl | exact uj rfl rfl (by rw [List.map_append]; first | done | rfl) | exact uh rfl rfl rfl rfl | exact Or.inl ⟨ue rfl (Sub.refl _) rfl, uh rfl rfl rfl rfl⟩ | exact uu rfl rfl rfl rfl | exact uC rfl rfl | exact uD rfl rfl | exact ue rfl (Sub.altl _ _) rfl | exact ue rfl (Sub.nil _) rfl | refine ⟨_, _, rfl, ?_, ?_⟩ | apply And.intro) ⟨trivial, trivial⟩) (by simp) rfl rfl rfl rfl rfl (Sub.refl _)
def autS1 : ByteArray := ⟨#[97, 117, 116, 111]⟩
def xS : List (List Nd) → List (Int × Int) → Option (List (Int × Int))
  | [], acc => some acc
  | [a, b] :: r, acc => if (vQ a (-2147483648)).2 && (vQ b 2147483647).2 && decide ((vQ a (-2147483648)).1 ≤ (vQ b 2147483647).1) then xS r (acc ++ [((vQ a (-2147483648)).1, (vQ b 2147483647).1)]) else none
  | _, _ => none
def isAut : List Nd → Bool
  | [n] => isWd n autS1
  | _ => false
def z7 (S : Sd) (l : List Nd) : Sd × Bool :=
  if isAut l then ({ S with auto := true, range := [], said := S.said ||| 8 }, true) else
  match xS (wT l) [] with
  | none => (S, false)
  | some a => ({ S with auto := false, range := a, said := S.said ||| 8 }, true)
end Go.Proofs.YtllmagfmbglefaaDoor
