/- EqualClasses: its walk. -/
import Derived.Test.YtkpadjhdneiniaaGreatDoorNe
namespace Go.Proofs.YtkpadjhdneiniaaGreatDoor.Am
set_option linter.unusedVariables false
open Go.RowKit Go.Proofs.YtkpadjhdneiniaaGreatDoorW.PrintWords Go.Proofs.YtkpadjhdneiniaaGreatDoorW.PrintLast Go.Proofs.YtkpadjhdneiniaaGreatDoorW.PrintMore Go.Maps
open Go.Proofs.YtkpadjhdneiniaaGreatDoor.Base Go.Proofs.YtkpadjhdneiniaaGreatDoor.Map Go.Proofs.YtkpadjhdneiniaaGreatDoor.Sl Go.Proofs.YtkpadjhdneiniaaGreatDoor.Ow Go.Proofs.YtkpadjhdneiniaaGreatDoor.Se Go.Proofs.YtkpadjhdneiniaaGreatDoor.Gr Go.Proofs.YtkpadjhdneiniaaGreatDoor.Rf Go.Proofs.YtkpadjhdneiniaaGreatDoor.Tx Go.Proofs.YtkpadjhdneiniaaGreatDoor.Au



open Go.Proofs.YtkpadjhdneiniaaGreatDoor.Eb
/-! the classes of automata -/
def AllA (w : World) (G : Nat → Prop) (ps : List (Option Addr)) (T : List ByteArray) (E : List GE) : Prop := ∀ j, j < ps.length → ∃ pa b e, ps.getD j none = some ⟨pa, 0, none⟩ ∧ AuS b e w pa T E (j : Int) ∧ e ≤ w.heap.size ∧ ∀ q, G q → q < b ∨ e ≤ q
theorem AllA.below {w w1 : World} {G : Nat → Prop} {ps : List (Option Addr)} {T : List ByteArray} {E : List GE} (h : AllA w G ps T E) (hb : Below w.heap.size w w1) : AllA w1 G ps T E := fun j hj => by
  obtain ⟨pa, b, e, h1, h2, h3, h4⟩ := h j hj
  exact ⟨pa, b, e, h1, h2.below hb h3, Nat.le_trans h3 hb.size, h4⟩
theorem AllA.chg {w w1 : World} {G : Nat → Prop} {ps : List (Option Addr)} {T : List ByteArray} {E : List GE} (h : AllA w G ps T E) (hC : Chg G w w1) : AllA w1 (ext G w w1) ps T E := fun j hj => by
  obtain ⟨pa, b, e, h1, h2, h3, h4⟩ := h j hj
  exact ⟨pa, b, e, h1, h2.chg h4 hC h3, Nat.le_trans h3 hC.size, fun q hq => hq.elim (h4 q) (fun h => .inr (by omega))⟩
theorem AllA.snoc {w : World} {G : Nat → Prop} {ps : List (Option Addr)} {T : List ByteArray} {E : List GE} (h : AllA w G ps T E) {pa b e : Nat} (h2 : AuS b e w pa T E (ps.length : Int)) (h3 : e ≤ w.heap.size) (h4 : ∀ q, G q → q < b ∨ e ≤ q) : AllA w G (ps ++ [some ⟨pa, 0, none⟩]) T E := fun j hj => by
  rw [List.length_append, List.length_singleton] at hj
  rcases Nat.lt_or_eq_of_le (Nat.le_of_lt_succ hj) with h1 | rfl
  · rw [getD_old ps _ none h1]; exact h j h1
  · rw [getD_new ps _ none]; exact ⟨pa, b, e, rfl, h2, h3, h4⟩
theorem same_bools (T : List ByteArray) (E : List GE) : ∃ S : Nat → Nat → Bool, ∀ j i, S j i = true ↔ ∀ v, ¬ Df T E [(j : Int)] [(i : Int)] v :=
  ⟨fun j i => @decide (∀ v, ¬ Df T E [(j : Int)] [(i : Int)] v) (Classical.propDecidable _), fun j i => by simp⟩
/-- what is the same of the same -/
structure Eqv (S : Nat → Nat → Bool) : Prop where
  refl : ∀ i, S i i = true
  symm : ∀ i j, S i j = S j i
  trans : ∀ i j k, S i j = true → S j k = true → S i k = true
theorem same_eqv {T : List ByteArray} {E : List GE} {S : Nat → Nat → Bool} (h : ∀ j i, S j i = true ↔ ∀ v, ¬ Df T E [(j : Int)] [(i : Int)] v) : Eqv S := by
  have e : ∀ j i, S j i = true ↔ ∀ v, tyG T (ledS E [(j : Int)] v) = tyG T (ledS E [(i : Int)] v) := fun j i => by
    rw [h j i]; exact forall_congr' fun v => Classical.not_not
  refine ⟨fun i => (e i i).2 fun v => rfl, fun i j => ?_, fun i j k h1 h2 => (e i k).2 fun v => ((e i j).1 h1 v).trans ((e j k).1 h2 v)⟩
  rw [Bool.eq_iff_iff, e i j, e j i]
  exact ⟨fun h v => (h v).symm, fun h v => (h v).symm⟩
end Go.Proofs.YtkpadjhdneiniaaGreatDoor.Am
