/- winnowerref01.Same; intern.New; ctx.New; the example of the layer ctx. -/
import Derived.Test.YtkbbliicijnpjaaDoorCb
namespace Go.Proofs.YtkbbliicijnpjaaDoor.Ca
open Go.RowKit Go.Proofs.YtkbbliicijnpjaaDoorW.PrintWords Go.Proofs.YtkbbliicijnpjaaDoorW.PrintLast Go.Proofs.YtkbbliicijnpjaaDoorW.PrintMore
open Go.Proofs.YtkbbliicijnpjaaDoor.PCtxMakes Go.Proofs.YtkbbliicijnpjaaDoor.Base
attribute [local go_sem] max2_int min2_int max_two min_two

theorem same_loop (l m : List Int) (hl : l.length = m.length) (hmax : l.length ≤ 9223372036854775807) (d : Nat) : ∀ (k i : Nat), i + d = l.length → d < k →
    winnowerref01_Same.l0 k l m i = some (decide (l.drop i = m.drop i)) := by
  induction d with
  | zero =>
    intro k i hi hk
    obtain ⟨k, rfl⟩ : ∃ n, k = n + 1 := ⟨k - 1, by omega⟩
    simp only [winnowerref01_Same.l0]
    rw [if_neg (by omega), List.drop_eq_nil_of_le (by omega), List.drop_eq_nil_of_le (by omega)]
    simp
  | succ d ih =>
    intro k i hi hk
    obtain ⟨k, rfl⟩ : ∃ n, k = n + 1 := ⟨k - 1, by omega⟩
    simp only [winnowerref01_Same.l0]
    have h1 : i < l.length := by omega
    have h2 : i < m.length := by omega
    rw [if_pos (by omega), if_pos (by omega), if_pos (by omega)]
    have hw : wrap64 ((i : Int) + 1) = ((i + 1 : Nat) : Int) := by unfold wrap64; omega
    rw [hw, List.drop_eq_getElem_cons h1, List.drop_eq_getElem_cons h2, ih k (i + 1) (by omega) (by omega)]
    have e1 : rd l i = l[i] := by simp [rd, h1]
    have e2 : rd m i = m[i] := by simp [rd, h2]
    rw [e1, e2]
    by_cases h : l[i] = m[i]
    · rw [if_pos h]; simp only [List.cons.injEq, h, true_and]
    · rw [if_neg h]; simp only [List.cons.injEq, h, false_and, decide_false]

theorem same_f (l m : List Int) (hmax : l.length ≤ 9223372036854775807) : winnowerref01_Same.f (l.length + 1) l m = some (l == m) := by
  unfold winnowerref01_Same.f
  by_cases h : l.length = m.length
  · rw [if_pos (by omega)]
    have := same_loop l m h hmax l.length (l.length + 1) 0 (by omega) (by omega)
    rw [Int.natCast_zero] at this
    rw [this]
    simp only [List.drop_zero]
    congr 1
    rw [Bool.eq_iff_iff]
    simp
  · rw [if_neg (by omega)]
    have : l ≠ m := fun e => h (by rw [e])
    simp [this]

theorem same_any (u v : Value) (l m : List Int) (w : World) (hu : RdV w u l) (hv : RdV w v m) :
    Calls Tryd.prog 17 #[u, v] w fun e w' => e = .returned (.bool (l == m)) ∧ Below w.heap.size w w' := by
  obtain ⟨A, c, rfl, hc, hr⟩ := hu
  obtain ⟨A', c', rfl, hc', hr'⟩ := hv
  exact (winnowerref01_Same.calls (l.length + 1) A c l A' c' m (l == m) w hr.out hc hr'.out hc' (same_f l m hr.max)).mono fun e w' ⟨h1, h2⟩ => ⟨h1, h2.below⟩

/-- the world behind intern.New -/
def internW (w : World) : World := ((w.alloc (.map #[] 0)).alloc (.map #[] 0)).alloc (.cells #[.map (some w.heap.size), .slice none 0 0, .map (some (w.heap.size + 1)), .slice none 0 0] 119)

set_option maxHeartbeats 400000 in
set_option maxRecDepth 100000 in
theorem internNew_any (w : World) : Calls Tryd.prog 53 #[] w fun e w' => e = .returned (.pointer (some ⟨w.heap.size + 2, 0, none⟩)) ∧ w' = internW w := by
  have hmm := @run_makeMap Tryd.prog
  go_enter Tryd.func53, Tryd.ntmps53
  go_wp2
  go_ret
  exact ⟨rfl, rfl⟩

/-- the world behind ctx.New -/
def ctxW (w : World) : World := (internW (internW w)).alloc (.cells #[.pointer (some ⟨w.heap.size + 2, 0, none⟩), .pointer (some ⟨w.heap.size + 5, 0, none⟩)] 58)
theorem internW_size (w : World) : (internW w).heap.size = w.heap.size + 3 := by simp [internW]
theorem ctxW_size (w : World) : (ctxW w).heap.size = w.heap.size + 7 := by simp [ctxW, internW_size]
theorem internW_below (w : World) : Below w.heap.size w (internW w) := below_alloc (below_alloc (below_alloc (Below.refl _ _) _) _) _
theorem ctxW_below (w : World) : Below w.heap.size w (ctxW w) := below_alloc (bel_trans (internW_below w) (internW_below _)) _

set_option maxHeartbeats 400000 in
set_option maxRecDepth 100000 in
theorem ctxNew_any (w : World) : Calls Tryd.prog 25 #[] w fun e w' => e = .returned (.pointer (some ⟨w.heap.size + 6, 0, none⟩)) ∧ w' = ctxW w := by
  go_enter Tryd.func25, Tryd.ntmps25
  have h1 := internW_size w
  have h2 := internW_size (internW w)
  go_wp2_with (first | (go_at_call 53; (with_reducible refine (internNew_any _).mono ?_); rintro e w1 ⟨rfl, rfl⟩))
  go_ret
  exact ⟨rfl, rfl⟩

theorem of_ex : ofL 2 5 [3, 4] = [4, 5] := by decide
theorem made_ex : madeL 2 [3, 4] = [4] := by decide

set_option maxHeartbeats 1000000 in
set_option maxRecDepth 100000 in
theorem awake_any (w : World) : Calls Tryd.prog 14 #[] w fun e w' => e = .returned (.bool true) ∧ Below w.heap.size w w' := by
  have e1 : (([4, 5] : List Int) == [4, 5] : Bool) = true := by decide
  have e2 : (([4] : List Int) == [4] : Bool) = true := by decide
  have HB0 := Below.refl w.heap.size w
  go_enter Tryd.func14, Tryd.ntmps14
  go_wp2_with fail
  refine (of_any 2 5 _ [3, 4] _ (OwI.lit _ [3, 4] (by decide)).toV (by decide)).mono ?_
  rintro e w1 ⟨v1, rfl, h1, h2⟩
  rw [of_ex] at h1
  have HB1 : Below w.heap.size w w1 := bel_trans (by simp [*]) h2
  have h1v := (h1.toV).alloc (.cells #[.int .i64 4, .int .i64 5] 3)
  clear h1 h2
  go_wp2_with fail
  refine (same_any v1 _ [4, 5] [4, 5] _ h1v (OwI.lit _ [4, 5] (by decide)).toV).mono ?_
  rintro e w2 ⟨rfl, h2⟩
  rw [e1]
  have HB2 : Below w.heap.size w w2 := bel_trans (by simp [*]) h2
  clear h1v h2
  go_wp2_with fail
  refine (made_any 2 _ [3, 4] _ (OwI.lit _ [3, 4] (by decide)).toV (by decide)).mono ?_
  rintro e w3 ⟨v3, rfl, h1, h2⟩
  rw [made_ex] at h1
  have HB3 : Below w.heap.size w w3 := bel_trans (by simp [*]) h2
  have h1v := (h1.toV).alloc (.cells #[.int .i64 4] 3)
  clear h1 h2
  go_wp2_with fail
  refine (same_any v3 _ [4] [4] _ h1v (OwI.lit _ [4] (by decide)).toV).mono ?_
  rintro e w4 ⟨rfl, h2⟩
  rw [e2]
  have HB4 : Below w.heap.size w w4 := bel_trans (by simp [*]) h2
  clear h1v h2
  go_wp2_with fail
  refine (ctxNew_any _).mono ?_
  rintro e w5 ⟨rfl, h5⟩
  have HB5 : Below w.heap.size w w5 := by rw [h5]; exact bel_trans HB4 (ctxW_below _)
  clear h5
  go_wp2
  go_ret
  exact ⟨rfl, HB5⟩
end Go.Proofs.YtkbbliicijnpjaaDoor.Ca
