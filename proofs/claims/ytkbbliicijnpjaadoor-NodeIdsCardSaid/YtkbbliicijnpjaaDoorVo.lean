/- NodeIds: plain laws. -/
import Derived.Test.YtkbbliicijnpjaaDoorVn
namespace Go.Proofs.YtkbbliicijnpjaaDoor.Tx
open Go.RowKit Go.Proofs.YtkbbliicijnpjaaDoorW.PrintWords Go.Proofs.YtkbbliicijnpjaaDoorW.PrintLast Go.Proofs.YtkbbliicijnpjaaDoorW.PrintMore
open Go.Proofs.YtkbbliicijnpjaaDoor.Base Go.Proofs.YtkbbliicijnpjaaDoor.Map Go.Proofs.YtkbbliicijnpjaaDoor.Ca Go.Proofs.YtkbbliicijnpjaaDoor.Qu Go.Proofs.YtkbbliicijnpjaaDoor.In Go.Proofs.YtkbbliicijnpjaaDoor.Kx Go.Maps Go.Proofs.YtkbbliicijnpjaaDoor.PNodeIds
set_option linter.unusedVariables false

/-- heads are kinds -/
def okAll (all : List S46) : Prop := ∀ s ∈ all, 0 ≤ s.f0 ∧ s.f0 < 5
theorem ids_round (all : List S46) (k a b d r1 r2 r3 r4 : Int) (r5 : Bool) (hpl : pl k a b d = (r1, r2, r3, r4, r5)) (hok : okAll all) :
    (r5 = false ∧ findS (all.map toT) k a b d = -1 ∧ idN (all.map toT) k a b d = -1 ∧ tlN (all.map toT) k a b d = all.map toT) ∨
    (r5 = true ∧ 0 ≤ findS (all.map toT) k a b d ∧ idN (all.map toT) k a b d = findS (all.map toT) k a b d ∧ tlN (all.map toT) k a b d = all.map toT) ∨
    (r5 = true ∧ findS (all.map toT) k a b d = -1 ∧ idN (all.map toT) k a b d = (all.length : Int) ∧ tlN (all.map toT) k a b d = (all ++ [(⟨r1, r2, r3, r4⟩ : S46)]).map toT ∧ okAll (all ++ [(⟨r1, r2, r3, r4⟩ : S46)])) := by
  have ht : tup k a b d = [r1, r2, r3, r4] := by unfold tup; rw [hpl]
  have ho : okN k a b d = r5 := by unfold okN; rw [hpl]
  unfold findS idN tlN
  rw [ho, ht]
  cases r5 with
  | false => exact .inl ⟨rfl, by simp, by simp, by simp⟩
  | true =>
    refine .inr ?_
    have h4 : ¬ 8 < ([r1, r2, r3, r4] : List Int).length := by simp
    by_cases hm : [r1, r2, r3, r4] ∈ all.map toT
    · refine .inl ⟨rfl, ?_, ?_, ?_⟩
      · rw [if_pos ⟨rfl, hm⟩]; omega
      · rw [if_pos rfl, if_pos ⟨rfl, hm⟩, idOf, if_neg h4]
      · rw [if_pos rfl, idL, if_pos (.inr hm)]
    · refine .inr ⟨rfl, ?_, ?_, ?_, ?_⟩
      · rw [if_neg (fun h => hm h.2)]
      · rw [if_pos rfl, idOf, if_neg h4, place_new hm, List.length_map]
      · rw [if_pos rfl, idL, if_neg (fun h => h.elim h4 hm), List.map_append]
        rfl
      · intro s hs
        rcases List.mem_append.1 hs with hs | hs
        · exact hok s hs
        · rw [List.mem_singleton] at hs
          subst hs
          exact (pl_again hpl).2
/-- what is counted: of the first j nodes those of the asked kinds -/
def inK (ks : List Int) (x : Int) : Bool := ks.isEmpty || decide (x ∈ ks)
def cntN (ks : List Int) (all : List S46) : Int := ((all.filter (fun s => inK ks s.f0)).length : Int)
theorem cntN_snoc (ks : List Int) (all : List S46) (s : S46) : cntN ks (all ++ [s]) = cntN ks all + if inK ks s.f0 then 1 else 0 := by
  unfold cntN
  rw [List.filter_append, List.length_append]
  cases h : inK ks s.f0 <;> simp [h]
theorem cntN_take (ks : List Int) (all : List S46) (j : Nat) (h : j < all.length) : cntN ks (all.take (j + 1)) = cntN ks (all.take j) + if inK ks all[j].f0 then 1 else 0 := by
  rw [List.take_succ_eq_append_getElem h, cntN_snoc]
theorem cntN_bd (ks : List Int) (all : List S46) : 0 ≤ cntN ks all ∧ cntN ks all ≤ (all.length : Int) := by
  unfold cntN
  have := List.length_filter_le (fun s => inK ks s.f0) all
  omega
theorem lenTo_snoc (tl : List (List Int)) (t : List Int) (ks : List Int) : ∀ j : Nat, lenTo (tl ++ [t]) ks j = lenTo tl ks j + if (ks = [] ∨ t.headD (-1) ∈ ks) ∧ 0 ≤ t.headD (-1) ∧ t.headD (-1) < (j : Int) then 1 else 0
  | 0 => by simp [lenTo]
  | j + 1 => by
    rw [lenTo, lenTo, lenTo_snoc tl t ks j, cntK_snoc]
    generalize t.headD (-1) = x
    by_cases hx : x = (j : Int)
    · subst hx
      by_cases hk : ks = [] ∨ (j : Int) ∈ ks
      · rw [if_pos hk, if_pos hk, if_pos rfl, if_neg (by omega), if_pos ⟨hk, by omega, by omega⟩]; omega
      · rw [if_neg hk, if_neg hk, if_neg (by omega), if_neg (fun h => hk h.1)]
    · rw [if_neg hx]
      have e : ((ks = [] ∨ x ∈ ks) ∧ 0 ≤ x ∧ x < ((j + 1 : Nat) : Int)) ↔ ((ks = [] ∨ x ∈ ks) ∧ 0 ≤ x ∧ x < (j : Int)) := by
        constructor
        · exact fun h => ⟨h.1, h.2.1, by omega⟩
        · exact fun h => ⟨h.1, h.2.1, by omega⟩
      simp only [e]
      split <;> split <;> omega
theorem lenN_take (ks : List Int) (all : List S46) (hok : okAll all) : ∀ j : Nat, j ≤ all.length → lenN ((all.take j).map toT) ks = cntN ks (all.take j)
  | 0, _ => by simp [lenN, lenTo, cntK, cntN]
  | j + 1, hj => by
    have h1 := lenN_take ks all hok j (by omega)
    have h2 := hok all[j] (List.getElem_mem _)
    rw [cntN_take ks all j hj, List.take_succ_eq_append_getElem hj, List.map_append]
    unfold lenN at h1 ⊢
    rw [List.map_singleton, lenTo_snoc, h1]
    have e : (toT all[j]).headD (-1) = all[j].f0 := rfl
    rw [e]
    congr 1
    unfold inK
    by_cases hk : ks = [] ∨ all[j].f0 ∈ ks
    · rw [if_pos ⟨hk, h2.1, by omega⟩, if_pos]
      rcases hk with rfl | hk
      · rfl
      · simp [hk]
    · rw [if_neg (fun h => hk h.1), if_neg]
      simpa using hk
theorem lenN_cnt (ks : List Int) (all : List S46) (hok : okAll all) : lenN (all.map toT) ks = cntN ks all := by
  have := lenN_take ks all hok all.length (Nat.le_refl _)
  rwa [List.take_length] at this
theorem cntN_nil (all : List S46) : cntN [] all = (all.length : Int) := by
  unfold cntN inK
  rw [List.filter_eq_self.2 (fun s hs => by simp)]
theorem tupleOf_map (all : List S46) (j : Nat) (h : j < all.length) : tupleOf (all.map toT) (j : Int) = toT all[j] := by
  unfold tupleOf
  rw [if_pos (by rw [List.length_map]; omega)]
  simp [h]
theorem tupleOf_end (all : List S46) : tupleOf (all.map toT) (all.length : Int) = [] := by
  unfold tupleOf
  rw [if_neg (by rw [List.length_map]; omega)]
/-- Find against the document -/
theorem findN_ref (tl : List (List Int)) (k a b c : Int) : (findN tl k a b c).2 = decide (findS tl k a b c ≥ 0) ∧ ((findN tl k a b c).2 = true → (findN tl k a b c).1 = findS tl k a b c) ∧ ((findN tl k a b c).2 = false → (findN tl k a b c).1 = 0) := by
  unfold findN findS
  cases ho : okN k a b c with
  | false => simp
  | true =>
    obtain ⟨r1, r2, r3, r4, ht, _⟩ := okN_pl ho
    have h4 : (tup k a b c).length ≤ 8 := by rw [ht]; simp
    unfold findOf
    by_cases hm : tup k a b c ∈ tl
    · simp [hm, h4]
    · simp [hm]
end Go.Proofs.YtkbbliicijnpjaaDoor.Tx
