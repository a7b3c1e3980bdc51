/- UnionAll, walked. -/
import Derived.Test.YtmaoadlighjkpaaUl
import Derived.Test.YtmaoadlighjkpaaUi
namespace Go.Proofs.Ytmaoadlighjkpaa.Un
open Go.RowKit Go.Proofs.YtmaoadlighjkpaaW.PrintWords Go.Proofs.YtmaoadlighjkpaaW.PrintLast Go.Proofs.YtmaoadlighjkpaaW.PrintMore
open Go.Proofs.Ytmaoadlighjkpaa.Base Go.Proofs.Ytmaoadlighjkpaa.Map Go.Proofs.Ytmaoadlighjkpaa.Qu Go.Proofs.Ytmaoadlighjkpaa.In
set_option linter.unusedVariables false

/-- the classes of a union, made by the call since -/
theorem classes_ut (w0 w : World) (p : Nat) (hs : List Int) (h : UT w0 w p hs) (hlen : hs.length ≤ 100000) : Calls Try.prog 54 #[.pointer (some ⟨p, 0, none⟩)] w fun e w' => ∃ A c, e = .returned (.slice A (cntOf hs) c) ∧ Rows2 w' w.heap.size (.slice A (cntOf hs) c) (classUp hs hs.length) ∧ UT w0 w' p hs := by
  obtain ⟨F, vU, vS, vH, h1, h2, h3⟩ := h
  exact (classes_any p F vU vS vH hs w h1 (fun k hk => (h2 k hk).2) hlen).mono fun e w' ⟨v, r1, r2, r3, r4⟩ => by
    obtain ⟨A, c, rfl⟩ := Kd.S_slice r2
    rw [classUp_len, headsUp_cnt] at r1 r2
    exact ⟨A, c, r1, r2, UT.next r3 r4 h2 h3⟩

/-- all from i on are one -/
def allL (k i : Nat) : List Int := (List.range k).map fun (j : Nat) => ((min j i : Nat) : Int)
theorem allL_len (k i : Nat) : (allL k i).length = k := by simp [allL]
theorem allL_rd (k i j : Nat) (h : j < k) : rd (allL k i) j = ((min j i : Nat) : Int) := by rw [rd_nat _ _ (by rw [allL_len]; exact h)]; simp [allL]
theorem allL_first (k : Nat) : rngL k = allL k (k - 1) := by
  unfold rngL allL
  refine List.map_congr_left (fun j hj => ?_)
  have := List.mem_range.1 hj
  omega
theorem allL_join (k i : Nat) (h0 : 0 < i) (h1 : i < k) : joinL (allL k i) i (i - 1) = allL k (i - 1) := by
  apply List.ext_getElem
  · rw [joinL_len, allL_len, allL_len]
  · intro j h2 h3
    rw [allL_len] at h3
    have e1 := joinL_rd (allL k i) i (i - 1) j (by rw [allL_len]; exact h3)
    rw [rd_nat _ _ h2, allL_rd k i j h3, allL_rd k i i h1, allL_rd k i (i - 1) (by omega)] at e1
    rw [e1]
    have e2 := allL_rd k (i - 1) j h3
    rw [rd_nat _ _ (by rw [allL_len]; exact h3)] at e2
    rw [e2]
    split <;> omega
theorem countP_lt (m : Nat) : ∀ N, (List.range N).countP (fun (j : Nat) => decide (j < m)) = min N m
  | 0 => by simp
  | N + 1 => by
    rw [List.range_succ, List.countP_append, countP_lt m N, List.countP_singleton]
    by_cases h : N < m
    · simp only [h, decide_true, if_true]; omega
    · simp only [h, decide_false, Bool.false_eq_true, if_false]; omega
theorem allL_cnt (k i : Nat) (h : i < k) : cntOf (allL k i) = i + 1 := by
  unfold cntOf
  rw [allL_len, countP_ext (q := fun (j : Nat) => decide (j < i + 1)) k (fun j hj => by
    rw [allL_rd k i j hj]
    apply decide_eq_decide.2
    omega), countP_lt]
  omega
theorem allL_canon (k i : Nat) (h : i < k) : Canon (allL k i) := ⟨fun j hj => by
  rw [allL_len] at hj
  exact ⟨min j i, allL_rd k i j hj, by omega, by rw [allL_rd k i (min j i) (by omega)]; congr 1; omega⟩⟩
/-- a step of the first loop; of the second -/
theorem all_step (k i : Nat) (h0 : 0 < i) (h1 : i < k) : joinS (allL k i) [(i : Int), ((i - 1 : Nat) : Int)] = allL k (i - 1) ∧ decide (allL k (i - 1) ≠ allL k i) = true ∧ cntOf (allL k (i - 1)) = i := by
  refine ⟨?_, ?_, ?_⟩
  · rw [join_two _ i (i - 1) (by rw [allL_len]; omega) (by rw [allL_len]; omega), allL_join k i h0 h1]
  · have := join_ne (allL_canon k i h1) (a := i) (b := i - 1) (by rw [allL_len]; omega) (by rw [allL_len]; omega)
    rw [allL_join k i h0 h1] at this
    rw [this, allL_rd k i i h1, allL_rd k i (i - 1) (by omega)]
    simp; omega
  · rw [allL_cnt k (i - 1) (by omega)]; omega
theorem all_end (k i : Nat) (h1 : i < k) : headOf (allL k 0) (i : Int) = 0 ∧ joinS (allL k 0) [(i : Int), ((k - 1 : Nat) : Int)] = allL k 0 := by
  constructor
  · unfold headOf; rw [if_pos (by rw [allL_len]; omega), allL_rd k 0 i h1]; simp
  · rw [join_two _ i (k - 1) (by rw [allL_len]; omega) (by rw [allL_len]; omega)]
    refine joinL_same _ _ _ ?_
    rw [allL_rd k 0 i h1, allL_rd k 0 (k - 1) (by omega)]; simp

set_option maxHeartbeats 8000000 in
set_option maxRecDepth 100000 in
theorem unionAll_walk (n : Int) (w : World) (hn0 : 0 ≤ n) (hn1 : n ≤ 255) :
    Calls Try.prog 14 #[.int .u8 n] w fun e w' => e = .returned (.bool true) ∧ Below w.heap.size w w' := by
  obtain ⟨k, hk⟩ : ∃ k : Nat, 1 + n = (k : Int) := ⟨(1 + n).toNat, by omega⟩
  have hk0 : 0 < k := by omega
  have hk1 : k ≤ 256 := by omega
  obtain ⟨k1, hkk⟩ : ∃ k1, k = k1 + 1 := ⟨k - 1, by omega⟩
  subst hkk
  have hf : rngL (k1 + 1) = allL (k1 + 1) k1 := allL_first (k1 + 1)
  have Hf := Aside0.mk hf
  have Hc0 := Aside0.mk (allL_cnt (k1 + 1) 0 (by omega))
  have hkp : (0 : Int) ≤ (k1 : Int) := by omega
  have hkm : (k1 : Int) ≤ 255 := by omega
  clear hf
  go_enter Try.func14, Try.ntmps14
  go_wp2_with fail
  refine (awake_un _).mono ?_
  rintro e w1 ⟨rfl, h1⟩
  go_wp2_with fail
  refine (new_ut w w1 h1 (k1 + 1) (by omega)).mono ?_
  rintro e w2 ⟨rfl, h2⟩
  rw [Hf.out] at h2
  generalize w1.heap.size = p at *
  clear h1
  go_wp2_with fail
  go_loopw [6] (fun I wr => ∃ (i : Nat), I = .int .i64 (i : Int) ∧ i ≤ k1 ∧ UT w wr p (allL (k1 + 1) i)) (fun i _ => (intOf i).toNat)
  case atStart => exact ⟨k1, by go_num, Nat.le_refl _, h2⟩
  case round =>
    clear h2
    obtain ⟨i, rfl, hi, hQ⟩ := hrel
    by_cases hlt : 0 < i
    · obtain ⟨f1, f2, f3⟩ := all_step (k1 + 1) i hlt (by omega)
      obtain ⟨i1, rfl⟩ : ∃ i1, i = i1 + 1 := ⟨i - 1, by omega⟩
      rw [Nat.add_sub_cancel] at f1 f2 f3
      have F1 := Aside0.mk f1
      have F2 := Aside0.mk f2
      have F3 := Aside0.mk f3
      have Hi := Aside0.mk hi
      have j0 : (0 : Int) ≤ (i1 : Int) := by omega
      have j1 : (i1 : Int) ≤ 255 := by omega
      have hm : (allL (k1 + 1) (i1 + 1)).length ≤ 1000000 := by rw [allL_len]; omega
      clear f1 f2 f3 hi hlt
      generalize allL (k1 + 1) (i1 + 1) = hs at *
      obtain ⟨hs', hs'e⟩ : ∃ l, allL (k1 + 1) i1 = l := ⟨_, rfl⟩
      have Hs' := Aside0.mk hs'e
      clear hs'e
      go_wp2_with fail
      refine (join_lit w wr p hs [((i1 + 1 : Nat) : Int), (i1 : Int)] hQ (by simp) hm).mono ?_
      rintro e w3 ⟨rfl, h3⟩
      rw [F1.out] at h3 ⊢
      rw [F2.out]
      go_wp2_with fail
      refine (count_ut w w3 p _ h3).mono ?_
      rintro e w4 ⟨rfl, rfl⟩
      rw [F3.out]
      go_wp2_with fail
      go_roundw
      case rel => exact ⟨i1, by go_num, by have := Hi.out; omega, h3⟩
      case measure => simp [intOf]
    · obtain rfl : i = 0 := by omega
      rw [show ((0 : Nat) : Int) = 0 from rfl]
      have hm : (allL (k1 + 1) 0).length ≤ 100000 := by rw [allL_len]; omega
      have Hm := Aside0.mk hm
      have Hends := Aside0.mk (fun i h => all_end (k1 + 1) i h)
      clear hm
      go_wp2_with fail
      go_loopw [7] (fun I wx => ∃ (i : Nat), I = .int .i64 (i : Int) ∧ i ≤ k1 + 1 ∧ UT w wx p (allL (k1 + 1) 0)) (fun i _ => k1 + 1 - (intOf i).toNat)
      case atStart => exact ⟨0, rfl, Nat.zero_le _, hQ⟩
      case round =>
        clear hQ
        obtain ⟨i, rfl, hi2, hQ⟩ := hrel
        by_cases hlt2 : i < k1 + 1
        · obtain ⟨g1, g2⟩ := Hends.out i hlt2
          rw [Nat.add_sub_cancel] at g2
          have G1 := Aside0.mk g1
          have G2 := Aside0.mk g2
          have j0 : (0 : Int) ≤ (i : Int) := by omega
          have j1 : (i : Int) < (k1 : Int) + 1 := by omega
          have j2 : (i : Int) ≤ 255 := by omega
          clear g1 g2 Hends
          generalize allL (k1 + 1) 0 = hs at *
          go_wp2_with fail
          refine (head_ut w wr p hs (i : Int) hQ).mono ?_
          rintro e w3 ⟨rfl, h3⟩
          rw [G1.out]
          go_wp2_with fail
          refine (join_lit w w3 p hs [(i : Int), (k1 : Int)] h3 (by simp) (by have := Hm.out; omega)).mono ?_
          rintro e w4 ⟨rfl, h4⟩
          rw [G2.out] at h4 ⊢
          have hd : decide (hs ≠ hs) = false := by simp
          rw [hd]
          go_wp2_with fail
          go_roundw
          case rel => exact ⟨i + 1, by go_num, by omega, h4⟩
          case measure => simp [intOf]; omega
        · obtain rfl : i = k1 + 1 := by omega
          clear Hends
          generalize allL (k1 + 1) 0 = hs at *
          go_wp2_with fail
          refine (count_ut w wr p hs hQ).mono ?_
          rintro e w4 ⟨rfl, rfl⟩
          rw [Hc0.out]
          go_wp2_with fail
          refine (classes_ut w wr p hs hQ Hm.out).mono ?_
          rintro e w4 ⟨A, c, rfl, _, h4⟩
          rw [Hc0.out]
          go_wp2
          go_ret
          exact ⟨rfl, h4.bel⟩
end Go.Proofs.Ytmaoadlighjkpaa.Un
