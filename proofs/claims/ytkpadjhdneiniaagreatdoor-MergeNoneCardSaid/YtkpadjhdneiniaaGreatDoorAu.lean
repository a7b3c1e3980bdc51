/- An object's automaton, plainly: its states in the order in which they are met. -/
import Derived.Test.YtkpadjhdneiniaaGreatDoorSl
namespace Go.Proofs.YtkpadjhdneiniaaGreatDoor.Au
open Go.Proofs.YtkpadjhdneiniaaGreatDoor.Sl
set_option linter.unusedVariables false

/-- a rising list of numbers below n -/
def Sm (n : Nat) (l : List Int) : Prop := Srt l ∧ ∀ x ∈ l, 0 ≤ x ∧ x < n
theorem Sm.len {n : Nat} {l : List Int} (h : Sm n l) : l.length ≤ n := srt_len h.1 (a := 0) (k := n) (fun x hx => by have := h.2 x hx; omega)
theorem sm_next {n : Nat} {E : List GE} (h : RightG n E) (f : Int) (os : List Int) : Sm n (nextG E f os) := ⟨srt_nextG _ _ _, fun x hx => by
  obtain ⟨a, h1, _⟩ := mem_nextG.1 hx
  exact ⟨(h _ h1).2.2.1, (h _ h1).2.2.2⟩⟩
theorem sm_one {n : Nat} {o : Int} (h0 : 0 ≤ o) (h1 : o < n) : Sm n [o] := ⟨by unfold Srt; simp, fun x hx => by rw [List.mem_singleton] at hx; subst hx; exact ⟨h0, h1⟩⟩
/-! how many such lists there are -/
theorem nodup_len {α : Type} [DecidableEq α] : ∀ (L M : List α), L.Nodup → (∀ x ∈ L, x ∈ M) → L.length ≤ M.length
  | [], M, _, _ => Nat.zero_le _
  | a :: L, M, h, hs => by
    obtain ⟨h1, h2⟩ := List.nodup_cons.1 h
    have ha := hs a (by simp)
    have := nodup_len L (M.erase a) h2 (fun x hx => (List.mem_erase_of_ne (fun (e : x = a) => h1 (e ▸ hx))).2 (hs x (by simp [hx])))
    have h3 := List.length_erase_of_mem ha
    have h4 := List.length_pos_of_mem ha
    rw [List.length_cons]; omega
def allSm : Nat → List (List Int)
  | 0 => [[]]
  | n + 1 => allSm n ++ (allSm n).map (· ++ [(n : Int)])
theorem allSm_len : ∀ n, (allSm n).length = 2 ^ n
  | 0 => rfl
  | n + 1 => by unfold allSm; rw [List.length_append, List.length_map, allSm_len n, Nat.pow_succ]; omega
theorem srt_snoc {l : List Int} (h : Srt l) {m : Int} (hm : ∀ x ∈ l, x < m) : Srt (l ++ [m]) := by
  unfold Srt
  rw [List.pairwise_append]
  exact ⟨h, by simp, fun a ha b hb => by rw [List.mem_singleton] at hb; subst hb; exact hm a ha⟩
theorem mem_allSm : ∀ {n : Nat} {l : List Int}, Sm n l → l ∈ allSm n
  | 0, l, h => by
    have := h.len
    rw [List.eq_nil_of_length_eq_zero (Nat.le_zero.1 this)]; simp [allSm]
  | n + 1, l, h => by
    have hf : Sm n (l.filter (· < (n : Int))) := ⟨List.Pairwise.filter _ h.1, fun x hx => by
      obtain ⟨h1, h2⟩ := List.mem_filter.1 hx
      exact ⟨(h.2 x h1).1, by simpa using h2⟩⟩
    unfold allSm
    rw [List.mem_append, List.mem_map]
    by_cases hn : (n : Int) ∈ l
    · refine .inr ⟨_, mem_allSm hf, (srt_ext h.1 (srt_snoc hf.1 fun x hx => (hf.2 x hx).2) fun x => ?_).symm⟩
      rw [List.mem_append, List.mem_filter, List.mem_singleton]
      constructor
      · intro hx
        have := (h.2 x hx).2
        by_cases e : x = (n : Int)
        · exact .inr e
        · exact .inl ⟨hx, by simp; omega⟩
      · rintro (h1 | rfl)
        · exact h1.1
        · exact hn
    · refine .inl ?_
      have e : l = l.filter (· < (n : Int)) := (List.filter_eq_self.2 fun x hx => by
        have := (h.2 x hx).2
        have h3 : x ≠ (n : Int) := fun e => hn (e ▸ hx)
        simp; omega).symm
      rw [e]; exact mem_allSm hf
theorem sm_bound {n : Nat} {L : List (List Int)} (hd : L.Nodup) (h : ∀ s ∈ L, Sm n s) : L.length ≤ 2 ^ n := by
  rw [← allSm_len n]; exact nodup_len _ _ hd fun s hs => mem_allSm (h s hs)

/-! the states -/
/-- one more, if it wasn't met -/
def meet (L : List (List Int)) (s : List Int) : List (List Int) := if s ∈ L then L else L ++ [s]
/-- all that fields lead to from a state -/
def rowT (E : List GE) (s : List Int) (L : List (List Int)) (fs : List Int) : List (List Int) := fs.foldl (fun L f => meet L (nextG E f s)) L
def stT (E : List GE) (o : Int) : Nat → List (List Int)
  | 0 => [[o]]
  | i + 1 => match (stT E o i)[i]? with
    | none => stT E o i
    | some s => rowT E s (stT E o i) (fieldsG E s)
theorem stT_zero (E : List GE) (o : Int) : stT E o 0 = [[o]] := rfl
theorem stT_some {E : List GE} {o : Int} {i : Nat} {s : List Int} (h : (stT E o i)[i]? = some s) : stT E o (i + 1) = rowT E s (stT E o i) (fieldsG E s) := by
  show (match (stT E o i)[i]? with | none => stT E o i | some s => rowT E s (stT E o i) (fieldsG E s)) = _
  rw [h]
theorem stT_none {E : List GE} {o : Int} {i : Nat} (h : (stT E o i).length ≤ i) : stT E o (i + 1) = stT E o i := by
  show (match (stT E o i)[i]? with | none => stT E o i | some s => rowT E s (stT E o i) (fieldsG E s)) = _
  rw [List.getElem?_eq_none h]
theorem rowT_snoc (E : List GE) (s : List Int) (L : List (List Int)) (fs : List Int) (f : Int) : rowT E s L (fs ++ [f]) = meet (rowT E s L fs) (nextG E f s) := by simp [rowT, List.foldl_append]
theorem meet_pre (L : List (List Int)) (s : List Int) : L <+: meet L s := by unfold meet; split; exact List.prefix_refl _; exact List.prefix_append _ _
theorem mem_meet {L : List (List Int)} {s t : List Int} : t ∈ meet L s ↔ t = s ∨ t ∈ L := by
  unfold meet
  split
  · next h => exact ⟨.inr, fun h' => h'.elim (fun e => e ▸ h) id⟩
  · rw [List.mem_append, List.mem_singleton]; exact Or.comm
theorem meet_nodup {L : List (List Int)} (h : L.Nodup) (s : List Int) : (meet L s).Nodup := by
  unfold meet
  split
  · exact h
  · next hn =>
    rw [List.nodup_append]
    exact ⟨h, by simp, fun a ha b hb => by rw [List.mem_singleton] at hb; subst hb; exact fun e => hn (e ▸ ha)⟩
theorem rowT_pre (E : List GE) (s : List Int) : ∀ (fs : List Int) (L : List (List Int)), L <+: rowT E s L fs
  | [], L => List.prefix_refl _
  | f :: fs, L => (meet_pre L _).trans (rowT_pre E s fs _)
theorem mem_rowT {E : List GE} {s t : List Int} : ∀ {fs : List Int} {L : List (List Int)}, t ∈ rowT E s L fs ↔ t ∈ L ∨ ∃ f ∈ fs, t = nextG E f s
  | [], L => by simp [rowT]
  | f :: fs, L => by
    have e : rowT E s L (f :: fs) = rowT E s (meet L (nextG E f s)) fs := rfl
    rw [e, mem_rowT, mem_meet]
    constructor
    · rintro ((h | h) | ⟨g, h1, h2⟩)
      · exact .inr ⟨f, by simp, h⟩
      · exact .inl h
      · exact .inr ⟨g, by simp [h1], h2⟩
    · rintro (h | ⟨g, h1, h2⟩)
      · exact .inl (.inr h)
      · rcases List.mem_cons.1 h1 with rfl | h1
        · exact .inl (.inl h2)
        · exact .inr ⟨g, h1, h2⟩
theorem rowT_nodup {E : List GE} {s : List Int} : ∀ {fs : List Int} {L : List (List Int)}, L.Nodup → (rowT E s L fs).Nodup
  | [], L, h => h
  | f :: fs, L, h => (rowT_nodup (E := E) (s := s) (fs := fs) (meet_nodup h (nextG E f s)) :)
/-- what holds of the states that were met -/
structure StI (n : Nat) (E : List GE) (o : Int) (L : List (List Int)) : Prop where
  nodup : L.Nodup
  sm : ∀ s ∈ L, Sm n s ∧ s ≠ []
  head : [[o]] <+: L
theorem StI.len {n : Nat} {E : List GE} {o : Int} {L : List (List Int)} (h : StI n E o L) : L.length ≤ 2 ^ n := sm_bound h.nodup fun s hs => (h.sm s hs).1
theorem next_ne {E : List GE} {s : List Int} (h : s ≠ []) {f : Int} (hf : f ∈ fieldsG E s) : nextG E f s ≠ [] := by
  obtain ⟨a, b, h1, h2⟩ := mem_fieldsG.1 hf
  rcases h2 with h2 | h2
  · exact absurd h2 h
  · exact List.ne_nil_of_mem (mem_nextG.2 ⟨a, h1, h2⟩)
theorem next_none {E : List GE} {s : List Int} {f : Int} (hf : f ∉ fieldsG E s) : nextG E f s = [] := by
  rcases h : nextG E f s with _ | ⟨x, l⟩
  · rfl
  · obtain ⟨a, h1, h2⟩ := mem_nextG.1 (show x ∈ nextG E f s by rw [h]; simp)
    exact absurd (mem_fieldsG.2 ⟨a, x, h1, .inr h2⟩) hf
theorem next_nil (E : List GE) (f : Int) : nextG E f [] = [] := by
  rcases h : nextG E f [] with _ | ⟨x, l⟩
  · rfl
  · obtain ⟨a, h1, h2⟩ := mem_nextG.1 (show x ∈ nextG E f [] by rw [h]; simp)
    cases h2
theorem StI.meet {n : Nat} {E : List GE} {o : Int} {L : List (List Int)} (hR : RightG n E) (h : StI n E o L) {s : List Int} (hs : s ≠ []) {f : Int} (hf : f ∈ fieldsG E s) : StI n E o (meet L (nextG E f s)) :=
  ⟨meet_nodup h.nodup _, fun t ht => (mem_meet.1 ht).elim (fun e => e ▸ ⟨sm_next hR _ _, next_ne hs hf⟩) (h.sm t), h.head.trans (meet_pre _ _)⟩
theorem StI.rowT {n : Nat} {E : List GE} {o : Int} {L : List (List Int)} (hR : RightG n E) (h : StI n E o L) {s : List Int} (hs : s ≠ []) {fs : List Int} (hf : ∀ f ∈ fs, f ∈ fieldsG E s) : StI n E o (rowT E s L fs) :=
  ⟨rowT_nodup h.nodup, fun t ht => (mem_rowT.1 ht).elim (h.sm t) (fun ⟨f, h1, h2⟩ => h2 ▸ ⟨sm_next hR _ _, next_ne hs (hf f h1)⟩), h.head.trans (rowT_pre _ _ _ _)⟩
theorem StI.start {n : Nat} (E : List GE) {o : Int} (h0 : 0 ≤ o) (h1 : o < n) : StI n E o [[o]] := ⟨by simp, fun s hs => by rw [List.mem_singleton] at hs; subst hs; exact ⟨sm_one h0 h1, by simp⟩, List.prefix_refl _⟩
theorem stT_inv {n : Nat} {E : List GE} {o : Int} (hR : RightG n E) (h0 : 0 ≤ o) (h1 : o < n) : ∀ i, StI n E o (stT E o i)
  | 0 => StI.start E h0 h1
  | i + 1 => by
    have ih := stT_inv hR h0 h1 i
    rcases Nat.lt_or_ge i (stT E o i).length with h | h
    · rw [stT_some (List.getElem?_eq_getElem h)]
      exact ih.rowT hR (ih.sm _ (List.getElem_mem h)).2 fun f hf => hf
    · rw [stT_none h]; exact ih
theorem stT_pre (E : List GE) (o : Int) : ∀ i k, i ≤ k → stT E o i <+: stT E o k
  | i, 0, h => by obtain rfl : i = 0 := by omega
                  exact List.prefix_refl _
  | i, k + 1, h => by
    by_cases e : i = k + 1
    · subst e; exact List.prefix_refl _
    refine (stT_pre E o i k (by omega)).trans ?_
    rcases Nat.lt_or_ge k (stT E o k).length with h | h
    · rw [stT_some (List.getElem?_eq_getElem h)]; exact rowT_pre _ _ _ _
    · rw [stT_none h]; exact List.prefix_refl _
theorem stT_stay (E : List GE) (o : Int) {i : Nat} (h : (stT E o i).length ≤ i) : ∀ k, i ≤ k → stT E o k = stT E o i
  | 0, hk => by obtain rfl : i = 0 := by omega
                rfl
  | k + 1, hk => by
    by_cases e : i = k + 1
    · subst e; rfl
    have ih := stT_stay E o h k (by omega)
    rw [stT_none (by rw [ih]; omega), ih]
/-- all states -/
def statesG (E : List GE) (n : Nat) (o : Int) : List (List Int) := stT E o (2 ^ n)
theorem states_inv {n : Nat} {E : List GE} {o : Int} (hR : RightG n E) (h0 : 0 ≤ o) (h1 : o < n) : StI n E o (statesG E n o) := stT_inv hR h0 h1 _
/-- where all that was met has been gone through, these are all -/
theorem states_done {n : Nat} {E : List GE} {o : Int} (hR : RightG n E) (h0 : 0 ≤ o) (h1 : o < n) {i : Nat} (h : (stT E o i).length ≤ i) : statesG E n o = stT E o i := by
  unfold statesG
  rcases Nat.le_total i (2 ^ n) with hl | hl
  · exact stT_stay E o h _ hl
  · exact (stT_stay E o (stT_inv hR h0 h1 _).len i hl).symm
theorem stT_sub (E : List GE) {n : Nat} {o : Int} (hR : RightG n E) (h0 : 0 ≤ o) (h1 : o < n) (i : Nat) : stT E o i <+: statesG E n o := by
  rcases Nat.le_total i (2 ^ n) with hl | hl
  · exact stT_pre E o _ _ hl
  · unfold statesG
    rw [stT_stay E o (stT_inv hR h0 h1 _).len i hl]; exact List.prefix_refl _
theorem pre_get {α : Type} {a b : List α} (h : a <+: b) {i : Nat} (hi : i < a.length) : b[i]? = a[i]? := by
  obtain ⟨c, rfl⟩ := h
  rw [List.getElem?_append_left hi]
/-- each state's fields lead to states -/
theorem states_next {n : Nat} {E : List GE} {o : Int} (hR : RightG n E) (h0 : 0 ≤ o) (h1 : o < n) {s : List Int} (hs : s ∈ statesG E n o) {f : Int} (hf : f ∈ fieldsG E s) : nextG E f s ∈ statesG E n o := by
  obtain ⟨i, hi, e⟩ := List.getElem_of_mem hs
  have key : ∀ k, i < (stT E o k).length → ∃ j, i < (stT E o j).length ∧ j ≤ i := fun k => by
    induction k with
    | zero => intro h; exact ⟨0, h, Nat.zero_le _⟩
    | succ k ih =>
      intro h
      rcases Nat.lt_or_ge i (stT E o k).length with hl | hl
      · exact ih hl
      · rcases Nat.lt_or_ge k (stT E o k).length with h2 | h2
        · exact ⟨k + 1, h, by omega⟩
        · rw [stT_none h2] at h; omega
  obtain ⟨j, hj, hji⟩ := key _ hi
  have hil : i < (stT E o i).length := Nat.lt_of_lt_of_le hj (stT_pre E o j i hji).length_le
  have hg : (stT E o i)[i]? = some s := by
    rw [← pre_get (stT_sub E hR h0 h1 i) hil, List.getElem?_eq_getElem hi, e]
  have hm : nextG E f s ∈ stT E o (i + 1) := by rw [stT_some hg]; exact mem_rowT.2 (.inr ⟨f, hf, rfl⟩)
  exact (stT_sub E hR h0 h1 (i + 1)).subset hm
/-- each state but the first was led to from one ahead -/
theorem stT_from {n : Nat} {E : List GE} {o : Int} (hR : RightG n E) (h0 : 0 ≤ o) (h1 : o < n) : ∀ i k, 0 < k → k < (stT E o i).length → ∃ j s f, j < k ∧ (stT E o i)[j]? = some s ∧ f ∈ fieldsG E s ∧ (stT E o i)[k]? = some (nextG E f s) ∧ j < i
  | 0, k, hk, hl => by rw [stT_zero] at hl; simp at hl; omega
  | i + 1, k, hk, hl => by
    rcases Nat.lt_or_ge i (stT E o i).length with h | h
    · have hsome := List.getElem?_eq_getElem h
      obtain ⟨s, hs⟩ : ∃ s, (stT E o i)[i] = s := ⟨_, rfl⟩
      rw [hs] at hsome
      have hp : stT E o i <+: stT E o (i + 1) := stT_pre E o _ _ (by omega)
      rcases Nat.lt_or_ge k (stT E o i).length with hk2 | hk2
      · obtain ⟨j, t, f, h2, h3, h4, h5, h6⟩ := stT_from hR h0 h1 i k hk hk2
        exact ⟨j, t, f, h2, by rw [pre_get hp (by omega)]; exact h3, h4, by rw [pre_get hp hk2]; exact h5, by omega⟩
      · have hm : (stT E o (i + 1))[k] ∈ stT E o (i + 1) := List.getElem_mem hl
        have e := stT_some hsome
        have hnd := (stT_inv hR h0 h1 (i + 1)).nodup
        have hnot : (stT E o (i + 1))[k] ∉ stT E o i := fun hmem => by
          obtain ⟨q, hq, eq⟩ := List.getElem_of_mem hmem
          have h7 : (stT E o (i + 1))[q]? = some (stT E o (i + 1))[k] := by rw [pre_get hp hq, List.getElem?_eq_getElem hq, eq]
          have hql : q < (stT E o (i + 1)).length := Nat.lt_of_lt_of_le hq hp.length_le
          rw [List.getElem?_eq_getElem hql] at h7
          have := (List.getElem_inj hnd).1 (Option.some.inj h7)
          omega
        have hm2 : (stT E o (i + 1))[k] ∈ rowT E s (stT E o i) (fieldsG E s) := by rw [← e]; exact hm
        rcases mem_rowT.1 hm2 with h8 | ⟨f, h8, h9⟩
        · exact absurd h8 hnot
        · exact ⟨i, s, f, by omega, by rw [pre_get hp h]; exact hsome, h8, by rw [List.getElem?_eq_getElem hl, h9], by omega⟩
    · rw [stT_none h] at hl ⊢
      obtain ⟨j, t, f, h2, h3, h4, h5, h6⟩ := stT_from hR h0 h1 i k hk hl
      exact ⟨j, t, f, h2, h3, h4, h5, by omega⟩
end Go.Proofs.YtkpadjhdneiniaaGreatDoor.Au
