/- contexts: the reference's Of, Made and Same are the program's. -/
import Derived.Test.YtkbbliicijnpjaaDoorTc
import Derived.Test.YtkbbliicijnpjaaDoorPc
namespace Go.Proofs.YtkbbliicijnpjaaDoor.Tx
open Go.RowKit Go.Proofs.YtkbbliicijnpjaaDoorW.PrintWords Go.Proofs.YtkbbliicijnpjaaDoorW.PrintLast Go.Proofs.YtkbbliicijnpjaaDoorW.PrintMore
open Go.Proofs.YtkbbliicijnpjaaDoor.Base Go.Proofs.YtkbbliicijnpjaaDoor.Ca Go.Proofs.YtkbbliicijnpjaaDoor.PCtxMakes
set_option linter.unusedVariables false

theorem last_l0 (n : Int) (l : List Int) (h0 : 0 ≤ n) (h3 : n ≤ 1000) (hl : l.length ≤ 1000) (c : Nat) (hc : c = ((l.length : Int) - n).toNat) : ∀ (d j k : Nat), d + j = l.length → d < k → winnowerref16_last.l0 k n l ((l.take j).drop c) (j : Int) = some (lastL n l)
  | _, _, 0, _, hk => absurd hk (Nat.not_lt_zero _)
  | 0, j, k + 1, hd, hk => by
    rw [winnowerref16_last.l0, if_neg (by omega), List.take_of_length_le (by omega), lastL, hc]
  | d + 1, j, k + 1, hd, hk => by
    have h1 := last_l0 n l h0 h3 hl c hc d (j + 1) k (by omega) (by omega)
    have hw : wrap64 ((j : Int) + 1) = ((j + 1 : Nat) : Int) := by unfold wrap64; omega
    have hw2 : wrap64 ((l.length : Int) - n) = (l.length : Int) - n := by unfold wrap64; omega
    have hts : l.take (j + 1) = l.take j ++ [rd l (j : Int)] := by
      rw [List.take_succ_eq_append_getElem (show j < l.length by omega)]
      congr 2
      simp [rd, List.getD, List.getElem?_eq_getElem (show j < l.length by omega)]
    have hlt : (l.take j).length = j := by rw [List.length_take]; omega
    rw [winnowerref16_last.l0, if_pos (by omega), hw2, hw]
    rw [hts] at h1
    by_cases h : (j : Int) ≥ (l.length : Int) - n
    · rw [List.drop_append_of_le_length (by omega)] at h1
      rw [if_pos h, if_pos (by omega), if_pos (by rw [List.length_drop]; omega)]
      exact h1
    · have e : (l.take j ++ [rd l (j : Int)]).drop c = (l.take j).drop c := by
        rw [List.drop_eq_nil_of_le (by rw [List.length_append]; simp; omega), List.drop_eq_nil_of_le (by omega)]
      rw [e] at h1
      rw [if_neg h]
      exact h1
theorem last_f (n : Int) (l : List Int) (h0 : 0 ≤ n) (h3 : n ≤ 1000) (hl : l.length ≤ 1000) (k : Nat) (hk : l.length < k) : winnowerref16_last.f k n l = some (lastL n l) := by
  have := last_l0 n l h0 h3 hl _ rfl l.length 0 k rfl hk
  rw [List.take_zero, List.drop_nil] at this
  exact this
theorem k_f (n : Int) : winnowerref16_k.f n = some (clipI n) := by
  unfold winnowerref16_k.f clipI mn mx
  repeat (first | split | rfl | omega | (congr 1; omega))
theorem of_f (n s : Int) (l : List Int) (hl : l.length ≤ 100) : winnowerref16_Of.f 200 n s l = some (ofL n s l) := by
  obtain ⟨h0, h3⟩ := clipI_bd n
  unfold winnowerref16_Of.f
  rw [if_pos (by simp; omega)]
  simp only [Option.bind_some, k_f]
  rw [if_pos (by simp; omega), last_f (clipI n) _ h0 (by omega) (by simp; omega) 200 (by simp; omega)]
  rfl
theorem made_f (n : Int) (l : List Int) (hl : l.length ≤ 100) : winnowerref16_Made.f 200 n l = some (madeL n l) := by
  obtain ⟨h0, h3⟩ := clipI_bd n
  unfold winnowerref16_Made.f madeL
  simp only [Option.bind_some, k_f]
  by_cases h : clipI n = 0
  · rw [if_pos h]
    have e : mx (clipI n - 1) 0 = 0 := by unfold mx; split <;> omega
    rw [e, lastL, List.drop_eq_nil_of_le (by omega)]
  · have e : mx (clipI n - 1) 0 = clipI n - 1 := by unfold mx; split <;> omega
    have hw : wrap64 (clipI n - 1) = clipI n - 1 := by unfold wrap64; omega
    rw [if_neg h, hw, last_f (clipI n - 1) l (by omega) (by omega) (by omega) 200 (by omega), e]
    rfl
theorem sameK1 (l m : List Int) (hmax : l.length ≤ 9223372036854775807) (k : Nat) (hk : l.length < k) : winnowerref01_Same.f k l m = some (decide (l = m)) := by
  unfold winnowerref01_Same.f
  by_cases h : l.length = m.length
  · rw [if_pos (by omega)]
    have := same_loop l m h hmax l.length k 0 (by omega) hk
    rw [Int.natCast_zero] at this
    rw [this]
    simp only [List.drop_zero]
  · rw [if_neg (by omega)]
    have : l ≠ m := fun e => h (by rw [e])
    simp [this]
theorem sameK_f (s : Int) (ns : List Int) (t : Int) (ms : List Int) (hl : ns.length ≤ 9223372036854775807) (k : Nat) (hk : ns.length < k) : winnowerref16_Same.f k s ns t ms = some (decide (s = t ∧ ns = ms)) := by
  unfold winnowerref16_Same.f
  by_cases e : s = t
  · rw [if_pos e, sameK1 ns ms hl k hk]; simp [e]
  · rw [if_neg e]; simp [e]
theorem eqI_l0 (l m : List Int) (hlm : l.length = m.length) (hmax : l.length ≤ 9223372036854775807) : ∀ (d j k : Nat), d + j = l.length → d < k → slices_Equal_int_int.l0 k l m (l.length : Int) (j : Int) = some (decide (l.drop j = m.drop j))
  | _, _, 0, _, hk => absurd hk (Nat.not_lt_zero _)
  | 0, j, k + 1, hd, hk => by
    rw [slices_Equal_int_int.l0, if_neg (by omega), List.drop_eq_nil_of_le (by omega), List.drop_eq_nil_of_le (by omega)]
    rfl
  | d + 1, j, k + 1, hd, hk => by
    have h1 := eqI_l0 l m hlm hmax d (j + 1) k (by omega) (by omega)
    have hw : wrap64 ((j : Int) + 1) = ((j + 1 : Nat) : Int) := by unfold wrap64; omega
    have e1 : l.drop j = rd l (j : Int) :: l.drop (j + 1) := by
      rw [List.drop_eq_getElem_cons (show j < l.length by omega)]
      simp [rd, List.getD, List.getElem?_eq_getElem (show j < l.length by omega)]
    have e2 : m.drop j = rd m (j : Int) :: m.drop (j + 1) := by
      rw [List.drop_eq_getElem_cons (show j < m.length by omega)]
      simp [rd, List.getD, List.getElem?_eq_getElem (show j < m.length by omega)]
    rw [slices_Equal_int_int.l0, if_pos (by omega), if_pos (by omega), if_pos (by omega), if_pos (by omega), e1, e2]
    by_cases h : rd l (j : Int) = rd m (j : Int)
    · rw [if_pos h, hw, h1]
      simp [h]
    · rw [if_neg h]
      simp [h]
theorem eqI_f (l m : List Int) (hmax : l.length ≤ 9223372036854775807) (k : Nat) (hk : l.length < k) : slices_Equal_int_int.f k l m = some (decide (l = m)) := by
  unfold slices_Equal_int_int.f
  by_cases h : l.length = m.length
  · rw [if_pos (by omega)]
    exact eqI_l0 l m h hmax l.length 0 k rfl hk
  · rw [if_neg (by omega)]
    have : l ≠ m := fun e => h (by rw [e])
    simp [this]
theorem ctxSame_f (s : Int) (ns : List Int) (t : Int) (ms : List Int) (hl : ns.length ≤ 9223372036854775807) (k : Nat) (hk : ns.length < k) : ctx_Same.f k s ns t ms = some (decide (s = t ∧ ns = ms)) := by
  unfold ctx_Same.f
  by_cases e : s = t
  · rw [if_pos e, eqI_f ns ms hl k hk]; simp [e]
  · rw [if_neg e]; simp [e]
section
variable {w : World} {u v : Value} {l m : List Int}
theorem refOf_any (n s : Int) (hu : RdV w u l) (hl : l.length ≤ 100) : Calls Tryd.prog 18 #[.int .i64 n, .agg #[.int .i64 s, u]] w fun e w' => ∃ v, e = .returned v ∧ OwI w' w.heap.size v (ofL n s l) ∧ Below w.heap.size w w' := by
  obtain ⟨A, c, rfl, hc, hr⟩ := hu
  exact (winnowerref16_Of.calls 200 n s A c l _ w hr.out hc (of_f n s l hl)).mono fun e w' ⟨v, h1, h2, h3⟩ => ⟨v, h1, ⟨h2⟩, h3⟩
theorem refMade_any (n : Int) (hu : RdV w u l) (hl : l.length ≤ 100) : Calls Tryd.prog 19 #[.int .i64 n, u] w fun e w' => ∃ v, e = .returned v ∧ OwI w' w.heap.size v (madeL n l) ∧ Below w.heap.size w w' := by
  obtain ⟨A, c, rfl, hc, hr⟩ := hu
  exact (winnowerref16_Made.calls 200 n A c l _ w hr.out hc (made_f n l hl)).mono fun e w' ⟨v, h1, h2, h3⟩ => ⟨v, h1, ⟨h2⟩, h3⟩
theorem refText_any (hu : RdV w u l) (hl : l.length ≤ 100) (hw : ∀ x ∈ l, (Lit.int .i64 x).wf = true) : Calls Tryd.prog 21 #[u] w fun e w' => e = .returned (.string (textS l)) ∧ Below w.heap.size w w' := by
  obtain ⟨A, c, rfl, hc, hr⟩ := hu
  exact winnowerref16_Text.calls 240 A c l _ w hr.out hc (textR_f l hl hw)
theorem refSame_any (s t : Int) (hu : RdV w u l) (hv : RdV w v m) : Calls Tryd.prog 23 #[.agg #[.int .i64 s, u], .agg #[.int .i64 t, v]] w fun e w' => e = .returned (.bool (decide (s = t ∧ l = m))) ∧ Below w.heap.size w w' := by
  obtain ⟨A, c, rfl, hc, hr⟩ := hu
  obtain ⟨B, d, rfl, hd, hr2⟩ := hv
  exact winnowerref16_Same.calls (l.length + 1) s A c l t B d m _ w hr.out hc hr2.out hd (sameK_f s l t m hr.max _ (by omega))
theorem ctxSame_any (s t : Int) (hu : RdV w u l) (hv : RdV w v m) : Calls Tryd.prog 22 #[.agg #[.int .i64 s, u], .agg #[.int .i64 t, v]] w fun e w' => e = .returned (.bool (decide (s = t ∧ l = m))) ∧ Below w.heap.size w w' := by
  obtain ⟨A, c, rfl, hc, hr⟩ := hu
  obtain ⟨B, d, rfl, hd, hr2⟩ := hv
  exact ctx_Same.calls (l.length + 1) s A c l t B d m _ w hr.out hc hr2.out hd (ctxSame_f s l t m hr.max _ (by omega))
end
end Go.Proofs.YtkbbliicijnpjaaDoor.Tx
