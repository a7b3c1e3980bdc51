/- Ne, Nf -/
import Derived.Test.YtkpadjhdneiniaaGreatDoorNa
/- Ne: equal.Classes, slices.IndexFunc. -/
section
namespace Go.Proofs.YtkpadjhdneiniaaGreatDoor.Am
set_option linter.unusedVariables false
open Go.RowKit Go.Proofs.YtkpadjhdneiniaaGreatDoorW.PrintWords Go.Proofs.YtkpadjhdneiniaaGreatDoorW.PrintLast Go.Proofs.YtkpadjhdneiniaaGreatDoorW.PrintMore Go.Maps
open Go.Proofs.YtkpadjhdneiniaaGreatDoor.Base Go.Proofs.YtkpadjhdneiniaaGreatDoor.Map Go.Proofs.YtkpadjhdneiniaaGreatDoor.Sl Go.Proofs.YtkpadjhdneiniaaGreatDoor.Ow Go.Proofs.YtkpadjhdneiniaaGreatDoor.Se Go.Proofs.YtkpadjhdneiniaaGreatDoor.Gr Go.Proofs.YtkpadjhdneiniaaGreatDoor.Rf Go.Proofs.YtkpadjhdneiniaaGreatDoor.Tx Go.Proofs.YtkpadjhdneiniaaGreatDoor.Au



open Go.Proofs.YtkpadjhdneiniaaGreatDoor.Eb
/-! which one is the first -/
def firstG (B : Nat → Bool) : Nat → Int
  | 0 => -1
  | n + 1 => if firstG B n = -1 then (if B n = true then (n : Int) else -1) else firstG B n
theorem firstG_none {B : Nat → Bool} : ∀ {n : Nat}, (∀ j, j < n → B j = false) → firstG B n = -1
  | 0, _ => rfl
  | n + 1, h => by unfold firstG; rw [if_pos (firstG_none (fun j hj => h j (by omega))), h n (by omega)]; rfl
theorem firstG_at {B : Nat → Bool} {k : Nat} (h : ∀ j, j < k → B j = false) (hb : B k = true) : ∀ {n : Nat}, k < n → firstG B n = (k : Int)
  | 0, hk => by omega
  | n + 1, hk => by
    unfold firstG
    rcases Nat.lt_or_eq_of_le (Nat.le_of_lt_succ hk) with h1 | rfl
    · have e := firstG_at h hb h1
      rw [e, if_neg (by omega)]
    · rw [if_pos (firstG_none h), if_pos hb]
theorem firstG_spec (B : Nat → Bool) : ∀ n, (firstG B n = -1 ∧ ∀ j, j < n → B j = false) ∨ ∃ k, k < n ∧ firstG B n = (k : Int) ∧ B k = true ∧ ∀ j, j < k → B j = false
  | 0 => .inl ⟨rfl, fun j h => by omega⟩
  | n + 1 => by
    rcases firstG_spec B n with ⟨h1, h2⟩ | ⟨k, h1, h2, h3, h4⟩
    · cases hb : B n with
      | true => exact .inr ⟨n, by omega, firstG_at h2 hb (by omega), hb, h2⟩
      | false => exact .inl ⟨firstG_none (fun j hj => by
          rcases Nat.lt_or_eq_of_le (Nat.le_of_lt_succ hj) with h | rfl
          · exact h2 j h
          · exact hb), fun j hj => by
          rcases Nat.lt_or_eq_of_le (Nat.le_of_lt_succ hj) with h | rfl
          · exact h2 j h
          · exact hb⟩
    · exact .inr ⟨k, by omega, firstG_at h4 h3 (by omega), h3, h4⟩
/-- the classes: of each the first one that is the same -/
def clsL (S : Nat → Nat → Bool) (n : Nat) : List Int := (List.range n).map fun i => firstG (fun j => S j i) (i + 1)
/-- v reads as pointers -/
structure RdA (w : World) (v : Value) (ps : List (Option Addr)) : Prop where
  mk :: (out : ∃ A c, v = .slice A ps.length c ∧ ps.length ≤ c ∧ ∀ j, j < ps.length → ∃ ad, A = some ad ∧ w.cell? (ad.add j) = some (.pointer (ps.getD j none)))
theorem RdA.below {w w1 : World} {v : Value} {ps : List (Option Addr)} (h : RdA w v ps) (hb : Below w.heap.size w w1) : RdA w1 v ps := by
  obtain ⟨A, c, h1, h2, h3⟩ := h
  refine ⟨A, c, h1, h2, fun j hj => ?_⟩
  obtain ⟨ad, e1, e2⟩ := h3 j hj
  exact ⟨ad, e1, pw_cell_below hb e2⟩
theorem RdA.at_ {w : World} {A : Option Addr} {n c : Nat} {ps : List (Option Addr)} (h : RdA w (.slice A n c) ps) {j : Nat} (hj : j < ps.length) : ∃ ad, A = some ad ∧ w.cell? (ad.add j) = some (.pointer (ps.getD j none)) := by
  obtain ⟨A', c', h1, h2, h3⟩ := h
  cases h1
  exact h3 j hj
theorem RdA.len {w : World} {v : Value} {ps : List (Option Addr)} (h : RdA w v ps) : ∃ A c, v = .slice A ps.length c ∧ ps.length ≤ c := by
  obtain ⟨A, c, h1, h2, h3⟩ := h
  exact ⟨A, c, h1, h2⟩
theorem RdA.take {w : World} {A : Option Addr} {n c : Nat} {ps : List (Option Addr)} (h : RdA w (.slice A n c) ps) {i : Nat} (hi : i ≤ n) : RdA w (.slice A i c) (ps.take i) := by
  obtain ⟨A', c', h1, h2, h3⟩ := h
  injection h1 with ha hb hc
  subst ha; subst hb; subst hc
  refine ⟨A, c, by rw [List.length_take, Nat.min_eq_left hi], by rw [List.length_take]; omega, fun j hj => ?_⟩
  rw [List.length_take] at hj
  obtain ⟨ad, e1, e2⟩ := h3 j (by omega)
  exact ⟨ad, e1, by rw [e2]; congr 2; rw [List.getD_eq_getElem?_getD, List.getD_eq_getElem?_getD, List.getElem?_take, if_pos (by omega)]⟩
/-- what equal.Same says of two -/
def SameSaid (w : World) (a b : Option Addr) (B : Bool) : Prop := ∀ W', Below w.heap.size w W' → Calls Tryz.prog 41 #[.pointer a, .pointer b] W' fun e w' => e = .returned (.bool B) ∧ Below W'.heap.size W' w'
theorem SameSaid.below {w w1 : World} {a b : Option Addr} {B : Bool} (h : SameSaid w a b B) (hb : Below w.heap.size w w1) : SameSaid w1 a b B := fun W' hc => h W' (bel_trans hb hc)
end Go.Proofs.YtkpadjhdneiniaaGreatDoor.Am
end

/- Nf: Automata that stay: made2; rows of pointers. -/
section
namespace Go.Proofs.YtkpadjhdneiniaaGreatDoor.Am
set_option linter.unusedVariables false
open Go.RowKit Go.Proofs.YtkpadjhdneiniaaGreatDoorW.PrintWords Go.Proofs.YtkpadjhdneiniaaGreatDoorW.PrintLast Go.Proofs.YtkpadjhdneiniaaGreatDoorW.PrintMore Go.Maps
open Go.Proofs.YtkpadjhdneiniaaGreatDoor.Base Go.Proofs.YtkpadjhdneiniaaGreatDoor.Map Go.Proofs.YtkpadjhdneiniaaGreatDoor.Sl Go.Proofs.YtkpadjhdneiniaaGreatDoor.Ow Go.Proofs.YtkpadjhdneiniaaGreatDoor.Se Go.Proofs.YtkpadjhdneiniaaGreatDoor.Gr Go.Proofs.YtkpadjhdneiniaaGreatDoor.Rf Go.Proofs.YtkpadjhdneiniaaGreatDoor.Tx Go.Proofs.YtkpadjhdneiniaaGreatDoor.Au



open Go.Proofs.YtkpadjhdneiniaaGreatDoor.Eb
/-- An automaton in block pa of object o: it stays so, whatever changes of what is older than b or newer than e. -/
def AuS (b e : Nat) (w : World) (pa : Nat) (T : List ByteArray) (E : List GE) (o : Int) : Prop :=
  ∃ pg F, ∀ (G : Nat → Prop) (w1 : World), (∀ k, G k → k < b ∨ e ≤ k) → Chg G w w1 → AuX w1 F pa pg (statesG E T.length o) (stepG E (statesG E T.length o)) 100000 ∧ GA w1 pg T E
theorem AuS.chg {b e : Nat} {w w1 : World} {pa : Nat} {T : List ByteArray} {E : List GE} {o : Int} (h : AuS b e w pa T E o) {G : Nat → Prop} (hG : ∀ k, G k → k < b ∨ e ≤ k) (hC : Chg G w w1) (he : e ≤ w.heap.size) : AuS b e w1 pa T E o := by
  obtain ⟨pg, F, h⟩ := h
  refine ⟨pg, F, fun G' w2 hG' hC' => h (fun k => G k ∨ G' k) w2 (fun k hk => hk.elim (hG k) (hG' k)) ?_⟩
  exact (hC.mono (fun _ _ hk => .inl hk)).then_ hC' (fun k hk => .inl (.inr hk))
theorem AuS.below {b e : Nat} {w w1 : World} {pa : Nat} {T : List ByteArray} {E : List GE} {o : Int} (h : AuS b e w pa T E o) (hb : Below w.heap.size w w1) (he : e ≤ w.heap.size) : AuS b e w1 pa T E o :=
  h.chg (G := fun _ => False) (fun _ hk => hk.elim) (Chg.of_below hb _) he
theorem AuS.au {b e : Nat} {w : World} {pa : Nat} {T : List ByteArray} {E : List GE} {o : Int} (h : AuS b e w pa T E o) : ∃ pg F, ∀ w1, Below w.heap.size w w1 → AuX w1 F pa pg (statesG E T.length o) (stepG E (statesG E T.length o)) 100000 ∧ GA w1 pg T E := by
  obtain ⟨pg, F, h⟩ := h
  exact ⟨pg, F, fun w1 hb => h (fun _ => False) w1 (fun _ hk => hk.elim) (Chg.of_below hb _)⟩
/-- winnowerlaw24.made, and that nothing of it is old -/
def MadeSaid2 (w : World) (T : List ByteArray) (E : List GE) (o : Int) (e : Ending) (w' : World) : Prop :=
  ∃ pa, e = .returned (.pointer (some ⟨pa, 0, none⟩)) ∧ AuS w.heap.size w'.heap.size w' pa T E o ∧ Below w.heap.size w w'
/-! rows of pointers of the call's own -/
abbrev kP : Kd (Option Addr) := Kd.scalar (fun x => Value.pointer x) (fun _ => rfl)
section
variable {ops : Array Oper} {rest : List Oper} {o : Oper} {a : Act} {Q : Exit → Act → World → Prop}
end

end Go.Proofs.YtkpadjhdneiniaaGreatDoor.Am
end
