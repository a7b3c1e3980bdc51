/- QueueRound, walked. -/
import Derived.Test.YtmaoadlighjkpaaQe
namespace Go.Proofs.Ytmaoadlighjkpaa.Qu
open Go.RowKit Go.Proofs.YtmaoadlighjkpaaW.PrintWords Go.Proofs.YtmaoadlighjkpaaW.PrintLast Go.Proofs.YtmaoadlighjkpaaW.PrintMore
open Go.Proofs.Ytmaoadlighjkpaa.Base Go.Proofs.Ytmaoadlighjkpaa.Map Go.Proofs.Ytmaoadlighjkpaa.Ca Go.Maps
set_option linter.unusedVariables false

/-- a, a + 1, ..: n of them, each times c -/
def seqL (c a n : Nat) : List Int := (List.range n).map fun j => ((c * (a + j) : Nat) : Int)
theorem seqL_len (c a n : Nat) : (seqL c a n).length = n := by simp [seqL]
theorem seqL_snoc (c a n : Nat) : seqL c a (n + 1) = seqL c a n ++ [((c * (a + n) : Nat) : Int)] := by simp [seqL, List.range_succ]
theorem seqL_cons (c a n : Nat) : seqL c a (n + 1) = ((c * a : Nat) : Int) :: seqL c (a + 1) n := by
  simp only [seqL, List.range_succ_eq_map, List.map_cons, List.map_map, Nat.add_zero]
  congr 1
  apply List.map_congr_left
  intro j _
  simp [Function.comp, Nat.add_assoc, Nat.add_comm 1 j]
theorem mem_seqL {c a n : Nat} {x : Int} : x ∈ seqL c a n ↔ ∃ j, j < n ∧ x = ((c * (a + j) : Nat) : Int) := by
  simp only [seqL, List.mem_map, List.mem_range]
  exact ⟨fun ⟨j, h1, h2⟩ => ⟨j, h1, h2.symm⟩, fun ⟨j, h1, h2⟩ => ⟨j, h1, h2.symm⟩⟩

def rotL (k i : Nat) : List Int := (List.range k).map fun j => (((i + j) % k : Nat) : Int)
def midL (k i : Nat) : List Int := (List.range (k - 1)).map fun j => (((i + 1 + j) % k : Nat) : Int)
theorem rotL_cons (k i : Nat) (hk : 0 < k) : rotL k i = ((i % k : Nat) : Int) :: midL k i := by
  obtain ⟨m, rfl⟩ : ∃ m, k = m + 1 := ⟨k - 1, by omega⟩
  simp only [rotL, midL, List.range_succ_eq_map, List.map_cons, List.map_map, Nat.add_zero, Nat.add_sub_cancel]
  congr 1
  apply List.map_congr_left
  intro j _
  simp [Function.comp, Nat.add_assoc, Nat.add_comm 1 j]
theorem rotL_snoc (k i : Nat) (hk : 0 < k) : rotL k (i + 1) = midL k i ++ [((i % k : Nat) : Int)] := by
  obtain ⟨m, rfl⟩ : ∃ m, k = m + 1 := ⟨k - 1, by omega⟩
  simp only [rotL, midL, List.range_succ, List.map_append, List.map_cons, List.map_nil, Nat.add_sub_cancel]
  congr 3
  rw [show i + 1 + m = i + (m + 1) by omega, Nat.add_mod_right]
theorem mid_fresh (k i : Nat) (hk : 0 < k) : ((i % k : Nat) : Int) ∉ midL k i := by
  intro h
  simp only [midL, List.mem_map, List.mem_range] at h
  obtain ⟨j, hj, h⟩ := h
  have h1 : (i + 1 + j) % k = i % k := by omega
  have h2 := Nat.sub_mod_eq_zero_of_mod_eq h1
  rw [show i + 1 + j - i = j + 1 by omega, Nat.mod_eq_of_lt (by omega)] at h2
  omega
theorem rot_zero (k : Nat) : rotL k 0 = seqL 1 0 k := by
  simp only [rotL, seqL]
  apply List.map_congr_left
  intro j hj
  have := List.mem_range.1 hj
  rw [Nat.zero_add, Nat.mod_eq_of_lt this]; simp
theorem rotL_len (k i : Nat) : (rotL k i).length = k := by simp [rotL]

set_option maxHeartbeats 4000000 in
set_option maxRecDepth 100000 in
theorem queueRound_walk (n s : Int) (w : World) (hn0 : 0 ≤ n) (hn1 : n ≤ 255) (hs0 : 0 ≤ s) (hs1 : s ≤ 255) :
    Calls Try.prog 8 #[.int .u8 n, .int .u8 s] w fun e w' => e = .returned (.bool true) ∧ Below w.heap.size w w' := by
  obtain ⟨k, hk⟩ : ∃ k : Nat, 1 + n % 60 = (k : Int) := ⟨(1 + n % 60).toNat, by omega⟩
  have hk0 : 0 < k := by omega
  have hk60 : k ≤ 60 := by omega
  go_enter Try.func8, Try.ntmps8
  go_wp2_with fail
  refine (awake_any _).mono ?_
  rintro e w1 ⟨rfl, h1⟩
  go_wp2_with fail
  refine (new_st w w1 h1).mono ?_
  rintro e w2 ⟨g, rfl, h2⟩
  go_wp2_with fail
  clear hk h1
  go_loopw [7] (fun i wr => ∃ j : Nat, j ≤ k ∧ i = .int .i64 j ∧ QSt w wr g (seqL 1 0 j)) (fun i _ => k - (intOf i).toNat)
  case atStart => exact ⟨0, Nat.zero_le _, rfl, h2⟩
  case round =>
    obtain ⟨j, hj, rfl, hQ⟩ := hrel
    by_cases hlt : j < k
    · have hp : put1 (seqL 1 0 j) j = seqL 1 0 (j + 1) := by
        rw [seqL_snoc, put1_new _ _ (by omega) (fun h => by obtain ⟨i, hi, he⟩ := mem_seqL.1 h; omega)]
        simp
      have hw : (Lit.int .i64 (j : Int)).wf = true := WalkArith.wf_i64 (by omega)
      go_wp2_with fail
      refine (put_one w wr g _ j hQ hw).mono ?_
      rintro e w3 ⟨rfl, h3⟩
      rw [hp] at h3
      go_wp2_with fail
      go_roundw
      case rel => exact ⟨j + 1, by omega, by go_num, h3⟩
      case measure => simp [intOf]; omega
    · obtain rfl : j = k := by omega
      rw [← rot_zero] at hQ
      go_wp2_with fail
      go_loopw [8] (fun i wr => ∃ q : Nat, q ≤ s.toNat ∧ i = .int .i64 q ∧ QSt w wr g (rotL j q)) (fun i _ => s.toNat - (intOf i).toNat)
      case atStart => exact ⟨0, Nat.zero_le _, rfl, hQ⟩
      case round =>
        obtain ⟨q, hq, rfl, hQ⟩ := hrel
        by_cases hlt2 : (q : Int) < s
        · have hx : ((q % j : Nat) : Int) < 1048576 := by have := Nat.mod_lt q hk0; omega
          have hf := mid_fresh j q hk0
          have hsn := rotL_snoc j q hk0
          have hln := rotL_len j (q + 1)
          have hmod : (q : Int) % (j : Int) = ((q % j : Nat) : Int) := by omega
          rw [rotL_cons j q hk0] at hQ
          have hw : (Lit.int .i64 ((q % j : Nat) : Int)).wf = true := WalkArith.wf_i64 (by omega)
          have hx0 : (0 : Int) ≤ ((q % j : Nat) : Int) := by omega
          generalize ((q % j : Nat) : Int) = x at *
          have hp : put1 (put1 (midL j q) x) x = rotL j (q + 1) := by rw [put1_new _ _ ⟨hx0, hx⟩ hf, put1_old _ _ (by simp), hsn]
          have hc : (((rotL j (q + 1)).length : Int) - (midL j q).length) = 1 := by rw [hsn]; simp; omega
          have HP := Aside0.mk hp
          have HC := Aside0.mk hc
          have HL := Aside0.mk hln
          have HM := Aside0.mk hmod
          have HF := Aside0.mk hf
          clear hp hc hln hmod hsn hf
          go_wp2_with fail
          refine (next_some_st w wr g x _ hQ).mono ?_
          rintro e w3 ⟨rfl, h3⟩
          have g1 : ((x : Int) != (q : Int) % (j : Int)) = false := by rw [HM.out]; simp
          go_wp2_with fail
          refine (has_st w w3 g _ x h3 hw).mono ?_
          rintro e w4 ⟨rfl, rfl⟩
          rw [decide_eq_false HF.out]
          go_wp2_with fail
          refine (put_two w w3 g _ x x h3 hw hw).mono ?_
          rintro e w5 ⟨rfl, h5⟩
          rw [HP.out] at h5 ⊢
          rw [HC.out]
          go_wp2_with fail
          refine (len_st w w5 g _ h5).mono ?_
          rintro e w6 ⟨rfl, h6⟩
          rw [HL.out]
          go_wp2_with fail
          go_roundw
          case rel => exact ⟨q + 1, by omega, by go_num, h6⟩
          case measure => simp [intOf]; omega
        · go_wp2
          go_ret
          exact ⟨rfl, hQ.bel⟩
end Go.Proofs.Ytmaoadlighjkpaa.Qu
