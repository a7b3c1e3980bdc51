/- AutoRuns: its walk. -/
import Derived.Test.YtkpadjhdneiniaaGreatDoorBd
namespace Go.Proofs.YtkpadjhdneiniaaGreatDoor.Am
set_option linter.unusedVariables false
open Go.RowKit Go.Proofs.YtkpadjhdneiniaaGreatDoorW.PrintWords Go.Proofs.YtkpadjhdneiniaaGreatDoorW.PrintLast Go.Proofs.YtkpadjhdneiniaaGreatDoorW.PrintMore Go.Maps
open Go.Proofs.YtkpadjhdneiniaaGreatDoor.Base Go.Proofs.YtkpadjhdneiniaaGreatDoor.Map Go.Proofs.YtkpadjhdneiniaaGreatDoor.Sl Go.Proofs.YtkpadjhdneiniaaGreatDoor.Ow Go.Proofs.YtkpadjhdneiniaaGreatDoor.Se Go.Proofs.YtkpadjhdneiniaaGreatDoor.Gr Go.Proofs.YtkpadjhdneiniaaGreatDoor.Rf Go.Proofs.YtkpadjhdneiniaaGreatDoor.Tx Go.Proofs.YtkpadjhdneiniaaGreatDoor.Au



theorem getD_idx {S : List (List Int)} {s : List Int} (h : s ∈ S) : S.getD (S.idxOf s) [] = s := by
  rw [List.getD_eq_getElem?_getD, List.getElem?_eq_getElem (List.idxOf_lt_length_of_mem h)]; exact List.getElem_idxOf _
/-- where a word leads in the automaton, there it leads in the graph -/
theorem run_cases {n : Nat} {E : List GE} {o : Int} {S : List (List Int)} (hR : RightG n E) (h0 : 0 ≤ o) (h1 : o < n) (hS : statesG E n o = S) (l : List Int) :
    (ledG E o l ≠ [] ∧ ∃ k : Nat, runG (stepG E S) l = (k : Int) ∧ k < S.length ∧ S.getD k [] = ledG E o l) ∨ (ledG E o l = [] ∧ runG (stepG E S) l = -1) := by
  have hI : StI n E o S := by rw [← hS]; exact states_inv hR h0 h1
  have hN : ∀ s ∈ S, ∀ f ∈ fieldsG E s, nextG E f s ∈ S := fun s hs f hf => by
    have h := states_next hR h0 h1 (s := s) (by rw [hS]; exact hs) hf
    rw [hS] at h; exact h
  suffices hk : ∀ i, i ≤ l.length → (ledG E o (l.take i) ≠ [] ∧ ∃ k : Nat, runG (stepG E S) (l.take i) = (k : Int) ∧ k < S.length ∧ S.getD k [] = ledG E o (l.take i)) ∨ (ledG E o (l.take i) = [] ∧ runG (stepG E S) (l.take i) = -1) by
    have := hk l.length (Nat.le_refl _)
    rw [List.take_length] at this; exact this
  intro i
  induction i with
  | zero =>
    intro _
    rw [List.take_zero]
    refine .inl ⟨by unfold ledG; simp, 0, rfl, ?_, ?_⟩
    · have := hI.head.length_le; simp at this; exact this
    · rw [List.getD_eq_getElem?_getD, pre_get hI.head (by simp)]; rfl
  | succ i ih =>
    intro hi
    rw [take_snoc (by omega), ledG_snoc, runG_snoc]
    generalize l.getD i 0 = f
    have ih := ih (by omega)
    generalize l.take i = l at ih ⊢
    rcases ih with ⟨h2, k, h3, h4, h5⟩ | ⟨h2, h3⟩
    · rw [h3]
      by_cases hf : f ∈ fieldsG E (ledG E o l)
      · have hm := hN _ (by rw [← h5]; exact getD_mem h4) f hf
        refine .inl ⟨next_ne h2 hf, S.idxOf (nextG E f (ledG E o l)), ?_, List.idxOf_lt_length_of_mem hm, getD_idx hm⟩
        have e : stepG E S (k : Int) f = some (ledTo E S (S.getD k []) f) := by
          unfold stepG
          rw [Int.toNat_natCast, if_pos ⟨by omega, by omega, by rw [h5]; exact hf⟩]
        rw [e, h5]; rfl
      · refine .inr ⟨Au.next_none hf, ?_⟩
        have e : stepG E S (k : Int) f = none := by
          unfold stepG
          rw [Int.toNat_natCast, if_neg (fun h => hf (by rw [← h5]; exact h.2.2))]
        rw [e]; rfl
    · rw [h2, h3]
      refine .inr ⟨Au.next_nil E f, ?_⟩
      have e : stepG E S (-1) f = none := by
        unfold stepG
        rw [if_neg (fun h => by omega)]
      rw [e]; rfl
theorem run_led {n : Nat} {E : List GE} {o : Int} {S : List (List Int)} (hR : RightG n E) (h0 : 0 ≤ o) (h1 : o < n) (hS : statesG E n o = S) (l : List Int) : atG S (runG (stepG E S) l) = ledG E o l := by
  rcases run_cases hR h0 h1 hS l with ⟨_, k, h3, h4, h5⟩ | ⟨h2, h3⟩
  · rw [h3, atG_nat h4, h5]
  · rw [h3, h2]; exact atG_out (fun h => by omega)
end Go.Proofs.YtkpadjhdneiniaaGreatDoor.Am
