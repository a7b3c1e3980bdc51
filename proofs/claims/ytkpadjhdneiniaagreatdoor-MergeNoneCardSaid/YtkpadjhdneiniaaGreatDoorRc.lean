/- The document's graph: Small, Right. -/
import Derived.Test.YtkpadjhdneiniaaGreatDoorRb
namespace Go.Proofs.YtkpadjhdneiniaaGreatDoor.Rf
set_option linter.unusedVariables false
open Go.RowKit Go.Proofs.YtkpadjhdneiniaaGreatDoorW.PrintWords Go.Proofs.YtkpadjhdneiniaaGreatDoorW.PrintLast Go.Proofs.YtkpadjhdneiniaaGreatDoorW.PrintMore Go.Maps
open Go.Proofs.YtkpadjhdneiniaaGreatDoor.Base Go.Proofs.YtkpadjhdneiniaaGreatDoor.Map Go.Proofs.YtkpadjhdneiniaaGreatDoor.Sl Go.Proofs.YtkpadjhdneiniaaGreatDoor.Ow Go.Proofs.YtkpadjhdneiniaaGreatDoor.Se Go.Proofs.YtkpadjhdneiniaaGreatDoor.Gr

set_option maxHeartbeats 1000000 in
theorem small_any (A A2 : Option Addr) (n c n2 c2 : Nat) (w : World) :
    Calls Tryz.prog 57 #[.agg #[.slice A n c, .slice A2 n2 c2]] w fun e w' => e = .returned (.bool (decide (n ≤ 20 ∧ n2 ≤ 60))) ∧ Below w.heap.size w w' := by
  have hal : Below w.heap.size w (w.alloc (.cells #[.slice A n c, .slice A2 n2 c2] 25)) := below_alloc (Below.refl _ _) _
  by_cases h1 : n ≤ 20
  · have d1 : decide ((n : Int) ≤ 20) = true := decide_eq_true (by omega)
    by_cases h2 : n2 ≤ 60
    · have d2 : decide ((n2 : Int) ≤ 60) = true := decide_eq_true (by omega)
      have d : decide (n ≤ 20 ∧ n2 ≤ 60) = true := decide_eq_true ⟨h1, h2⟩
      rw [d]
      go_enter Tryz.func57, Tryz.ntmps57
      go_wp2
      go_ret
      exact ⟨rfl, hal⟩
    · have d2 : decide ((n2 : Int) ≤ 60) = false := decide_eq_false (by omega)
      have d : decide (n ≤ 20 ∧ n2 ≤ 60) = false := decide_eq_false (fun h => h2 h.2)
      rw [d]
      have h3 : ¬ (n2 : Int) ≤ 60 := by omega
      go_enter Tryz.func57, Tryz.ntmps57
      go_wp2
      go_ret
      exact ⟨rfl, hal⟩
  · have d1 : decide ((n : Int) ≤ 20) = false := decide_eq_false (by omega)
    have d : decide (n ≤ 20 ∧ n2 ≤ 60) = false := decide_eq_false (fun h => h1 h.1)
    rw [d]
    have h3 : ¬ (n : Int) ≤ 20 := by omega
    go_enter Tryz.func57, Tryz.ntmps57
    go_wp2
    go_ret
    exact ⟨rfl, hal⟩
instance (n : Nat) (E : List GE) : Decidable (RightG n E) := by unfold RightG; infer_instance
set_option maxHeartbeats 8000000 in
set_option maxRecDepth 100000 in
theorem right_any (A A2 : Option Addr) (n c c2 : Nat) (E : List GE) (w : World) (hE : RdE w A2 E) (hl : E.length ≤ 1000000) (hn : n ≤ 1000000) :
    Calls Tryz.prog 58 #[.agg #[.slice A n c, .slice A2 E.length c2]] w fun e w' => e = .returned (.bool (decide (RightG n E))) ∧ Below w.heap.size w w' := by
  have hal : Below w.heap.size w (w.alloc (.cells #[.slice A n c, .slice A2 E.length c2] 25)) := below_alloc (Below.refl _ _) _
  have Hb : Aside0 ((w.alloc (.cells #[.slice A n c, .slice A2 E.length c2] 25)).heap[w.heap.size]? = some (.cells #[.slice A n c, .slice A2 E.length c2] 25 (0, 0))) := ⟨heap_alloc_new _ _⟩
  have HE := Aside0.mk hE
  have Hl := Aside0.mk (And.intro hl hn)
  have Hal := Aside0.mk hal
  obtain ⟨B, hB⟩ : ∃ B, decide (RightG n E) = B := ⟨_, rfl⟩
  rw [hB]
  have HB := Aside0.mk hB
  clear hE hl hn hal hB
  go_enter Tryz.func58, Tryz.ntmps58
  go_wp2_with fail
  obtain ⟨W, hW⟩ : ∃ W, w.alloc (.cells #[.slice A n c, .slice A2 E.length c2] 25) = W := ⟨_, rfl⟩
  rw [hW] at Hb Hal ⊢
  obtain ⟨g, hg⟩ : ∃ g, w.heap.size = g := ⟨_, rfl⟩
  have Hg := Aside0.mk hg
  rw [hg] at Hb
  simp only [hg]
  clear hW hg
  go_loopw [3, 4] (fun I _ wr => ∃ i : Nat, I = .int .i64 (i : Int) ∧ i ≤ E.length ∧ Aside0 (RightG n (E.take i)) ∧ Aside0 (Below W.heap.size W wr)) (fun I _ _ => E.length - (intOf I).toNat)
  case atStart => exact ⟨0, rfl, Nat.zero_le _, ⟨fun e he => by cases he⟩, ⟨Below.refl _ _⟩⟩
  case round =>
    obtain ⟨i, rfl, hi, HRt, HBl⟩ := hrel
    have hb := Ow.blk_below Hb.out HBl.out
    have g0 : wr.cell? ⟨g, 0, none⟩ = some (.slice A n c) := blk_cell hb 0
    have g1 : wr.cell? ⟨g, 1, none⟩ = some (.slice A2 E.length c2) := blk_cell hb 1
    have HBw := Aside0.mk (below_then Hal.out Hal.out.size HBl.out)
    clear hb
    by_cases hin : i < E.length
    · have hnb : decide ((i : Int) < (E.length : Int)) = true := decide_eq_true (by omega)
      have hnc : decide (i < E.length) = true := decide_eq_true hin
      obtain ⟨ad, rfl, e0, e1, e2⟩ := (HE.out.below HBw.out).at_ i hin
      have i0 : 0 ≤ (i : Int) := by omega
      have i1 : (i : Int) < (E.length : Int) := by omega
      have i2 : (i : Int) ≤ 1000000 := by have := Hl.out.1; omega
      obtain ⟨⟨ea, ef, ez⟩, hee⟩ : ∃ e, E.getD i (0, 0, 0) = e := ⟨_, rfl⟩
      rw [hee] at e0 e1 e2
      have Hin := Aside0.mk (And.intro hin hee)
      clear hin hi hee
      replace i0 := eq_true i0
      replace i1 := eq_true i1
      have hal : Below wr.heap.size wr (wr.alloc (.cells #[.int .i64 ea, .int .i64 ef, .int .i64 ez] 75)) := below_alloc (Below.refl _ _) _
      have g0' := cell_bel hal g0
      have HB2 := Aside0.mk (below_then HBl.out HBl.out.size hal)
      have HB3 := Aside0.mk (below_then HBw.out HBw.out.size hal)
      clear hal
      by_cases hr : 0 ≤ ea ∧ ea < n ∧ 0 ≤ ez ∧ ez < n
      · obtain ⟨h1, h2, h3, h4⟩ := hr
        have HR' := Aside0.mk (right_snoc HRt.out Hin.out.1 Hin.out.2 ⟨h1, h2⟩ ⟨h3, h4⟩)
        have k1 : ¬ ea < 0 := by omega
        have k2 : ¬ (n : Int) ≤ ea := by omega
        have k3 : ¬ ez < 0 := by omega
        have k4 : ¬ (n : Int) ≤ ez := by omega
        go_wp2_with fail
        go_roundw
        case rel => exact ⟨i + 1, by go_num, Hin.out.1, HR', HB2⟩
        case measure => have := Hin.out.1; simp [intOf]; omega
      · have hB : B = false := by
          rw [← HB.out]
          exact decide_eq_false (not_right Hin.out.1 Hin.out.2 hr)
        have hor : ea < 0 ∨ (0 ≤ ea ∧ (n : Int) ≤ ea) ∨ (0 ≤ ea ∧ ea < n ∧ ez < 0) ∨ (0 ≤ ea ∧ ea < n ∧ 0 ≤ ez ∧ (n : Int) ≤ ez) := by omega
        have HBf := Aside0.mk hB
        clear hr hB
        rcases hor with h | ⟨h1, h2⟩ | ⟨h1, h2, h3⟩ | ⟨h1, h2, h3, h4⟩
        · go_wp2_with fail
          go_ret
          rw [HBf.out]
          exact ⟨rfl, HB3.out⟩
        · have k1 : ¬ ea < 0 := by omega
          go_wp2_with fail
          go_ret
          rw [HBf.out]
          exact ⟨rfl, HB3.out⟩
        · have k1 : ¬ ea < 0 := by omega
          have k2 : ¬ (n : Int) ≤ ea := by omega
          go_wp2_with fail
          go_ret
          rw [HBf.out]
          exact ⟨rfl, HB3.out⟩
        · have k1 : ¬ ea < 0 := by omega
          have k2 : ¬ (n : Int) ≤ ea := by omega
          have k3 : ¬ ez < 0 := by omega
          go_wp2_with fail
          go_ret
          rw [HBf.out]
          exact ⟨rfl, HB3.out⟩
    · have hnb : decide ((i : Int) < (E.length : Int)) = false := decide_eq_false (by omega)
      have hnc : decide (i < E.length) = false := decide_eq_false hin
      obtain rfl : i = E.length := by omega
      clear hin hi
      go_wp2_with fail
      go_ret
      have hB : B = true := by
        rw [← HB.out]
        have h := HRt.out
        rw [List.take_length] at h
        exact decide_eq_true h
      rw [hB]
      exact ⟨rfl, HBw.out⟩
end Go.Proofs.YtkpadjhdneiniaaGreatDoor.Rf
