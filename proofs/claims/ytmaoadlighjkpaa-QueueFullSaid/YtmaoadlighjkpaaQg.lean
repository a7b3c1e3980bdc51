/- QueueFull, walked. -/
import Derived.Test.YtmaoadlighjkpaaQf
namespace Go.Proofs.Ytmaoadlighjkpaa.Qu
open Go.RowKit Go.Proofs.YtmaoadlighjkpaaW.PrintWords Go.Proofs.YtmaoadlighjkpaaW.PrintLast Go.Proofs.YtmaoadlighjkpaaW.PrintMore
open Go.Proofs.Ytmaoadlighjkpaa.Base Go.Proofs.Ytmaoadlighjkpaa.Map Go.Proofs.Ytmaoadlighjkpaa.Ca Go.Maps
set_option linter.unusedVariables false

/-- what stands in the queue at round i of m, c the number that is put again -/
def fullL (m c i : Nat) : List Int := seqL 7 i (m - i) ++ (if c + 2 ≤ i then [((7 * c : Nat) : Int)] else [])
/-- behind the put -/
def fullP (m c i : Nat) : List Int := seqL 7 i (m - i) ++ (if c + 1 ≤ i then [((7 * c : Nat) : Int)] else [])
theorem full_put (m c i : Nat) (hc : c < m) (hi : i < m) (hm : m ≤ 256) : put1 (fullL m c i) ((7 * c : Nat) : Int) = fullP m c i ∧ (i ≤ c → ((fullP m c i).length : Int) - (fullL m c i).length = 0) := by
  unfold fullL fullP
  by_cases h1 : i ≤ c
  · rw [if_neg (by omega), if_neg (by omega)]
    refine ⟨put1_old _ _ ?_, fun _ => by omega⟩
    rw [List.append_nil]
    exact mem_seqL.2 ⟨c - i, by omega, by rw [show i + (c - i) = c by omega]⟩
  · by_cases h2 : c + 2 ≤ i
    · rw [if_pos h2, if_pos (by omega)]
      exact ⟨put1_old _ _ (by simp), fun h => absurd h h1⟩
    · rw [if_neg h2, if_pos (by omega), List.append_nil]
      refine ⟨put1_new _ _ (by omega) (fun h => ?_), fun h => absurd h h1⟩
      obtain ⟨j, hj, he⟩ := mem_seqL.1 h
      omega
theorem fullP_cons (m c i : Nat) (hi : i < m) : fullP m c i = ((7 * i : Nat) : Int) :: fullL m c (i + 1) := by
  unfold fullP fullL
  obtain ⟨d, hd⟩ : ∃ d, m - i = d + 1 := ⟨m - i - 1, by omega⟩
  rw [hd, seqL_cons, show m - (i + 1) = d by omega]
  by_cases h : c + 1 ≤ i
  · rw [if_pos h, if_pos (by omega)]; rfl
  · rw [if_neg h, if_neg (by omega)]; rfl
theorem full_mem (m c i : Nat) (hi : i < m) : ((7 * i : Nat) : Int) ∈ fullL m c i := by
  unfold fullL
  exact List.mem_append_left _ (mem_seqL.2 ⟨0, by omega, by simp⟩)
theorem full_zero (m c : Nat) : seqL 7 0 m = fullL m c 0 := by unfold fullL; rw [if_neg (by omega)]; simp

set_option maxHeartbeats 4000000 in
set_option maxRecDepth 100000 in
theorem queueFull_walk (n k : Int) (w : World) (hn0 : 0 ≤ n) (hn1 : n ≤ 255) (hk0 : 0 ≤ k) (hk1 : k ≤ 255) :
    Calls Try.prog 9 #[.int .u8 n, .int .u8 k] w fun e w' => e = .returned (.bool true) ∧ Below w.heap.size w w' := by
  obtain ⟨M, hM⟩ : ∃ M : Nat, 1 + n = (M : Int) := ⟨(1 + n).toNat, by omega⟩
  have hM0 : 0 < M := by omega
  have hM2 : M ≤ 256 := by omega
  obtain ⟨c, hcI⟩ : ∃ c : Nat, k % (M : Int) = (c : Int) := ⟨(k % (M : Int)).toNat, by have := Int.emod_nonneg k (show (M : Int) ≠ 0 by omega); omega⟩
  have hcm : c < M := by have := Int.emod_lt_of_pos k (show (0 : Int) < (M : Int) by omega); omega
  go_enter Try.func9, Try.ntmps9
  go_wp2_with fail
  refine (awake_any _).mono ?_
  rintro e w1 ⟨rfl, h1⟩
  go_wp2_with fail
  refine (new_st w w1 h1).mono ?_
  rintro e w2 ⟨g, rfl, h2⟩
  go_wp2_with fail
  clear hM h1
  go_loopw [7] (fun i wr => ∃ j : Nat, j ≤ M ∧ i = .int .i64 j ∧ QSt w wr g (seqL 7 0 j)) (fun i _ => M - (intOf i).toNat)
  case atStart => exact ⟨0, Nat.zero_le _, rfl, h2⟩
  case round =>
    obtain ⟨j, hj, rfl, hQ⟩ := hrel
    by_cases hlt : j < M
    · have hx : (j : Int) * 7 < 1048576 := by omega
      have hx0 : (0 : Int) ≤ (j : Int) * 7 := by omega
      have hp : put1 (put1 (seqL 7 0 j) ((j : Int) * 7)) ((j : Int) * 7) = seqL 7 0 (j + 1) := by
        have e1 : put1 (seqL 7 0 j) ((j : Int) * 7) = seqL 7 0 (j + 1) := by
          rw [seqL_snoc, put1_new _ _ ⟨hx0, hx⟩ (fun h => by obtain ⟨i, hi, he⟩ := mem_seqL.1 h; omega)]
          congr 2; omega
        rw [e1, put1_old _ _ (mem_seqL.2 ⟨j, by omega, by omega⟩)]
      have hw : (Lit.int .i64 ((j : Int) * 7)).wf = true := WalkArith.wf_i64 (by omega)
      have hl1 : ((seqL 7 0 (j + 1)).length : Int) - (seqL 7 0 j).length = 1 := by rw [seqL_len, seqL_len]; omega
      have hl2 : ((seqL 7 0 (j + 1)).length : Int) = (j : Int) + 1 := by rw [seqL_len]; omega
      have HP := Aside0.mk hp
      have H1 := Aside0.mk hl1
      have H2 := Aside0.mk hl2
      clear hp hl1 hl2
      go_wp2_with fail
      refine (put_two w wr g _ _ _ hQ hw hw).mono ?_
      rintro e w3 ⟨rfl, h3⟩
      rw [HP.out] at h3 ⊢
      rw [H1.out]
      go_wp2_with fail
      refine (len_st w w3 g _ h3).mono ?_
      rintro e w4 ⟨rfl, h4⟩
      rw [H2.out]
      go_wp2_with fail
      go_roundw
      case rel => exact ⟨j + 1, by omega, by go_num, h4⟩
      case measure => simp [intOf]; omega
    · obtain rfl : j = M := by omega
      rw [full_zero j c] at hQ
      go_wp2_with fail
      go_loopw [8] (fun i wr => ∃ q : Nat, q ≤ j ∧ i = .int .i64 q ∧ QSt w wr g (fullL j c q)) (fun i _ => j - (intOf i).toNat)
      case atStart => exact ⟨0, Nat.zero_le _, rfl, hQ⟩
      case round =>
        obtain ⟨q, hq, rfl, hQ⟩ := hrel
        by_cases hlt2 : q < j
        · have hmem := full_mem j c q hlt2
          obtain ⟨hput, hzero⟩ := full_put j c q hcm hlt2 (by omega)
          have hcons := fullP_cons j c q hlt2
          have hw : (Lit.int .i64 ((q : Int) * 7)).wf = true := WalkArith.wf_i64 (by omega)
          have hw2 : (Lit.int .i64 ((c : Int) * 7)).wf = true := WalkArith.wf_i64 (by omega)
          rw [show ((7 * c : Nat) : Int) = (c : Int) * 7 by omega] at hput
          rw [show ((7 * q : Nat) : Int) = (q : Int) * 7 by omega] at hcons hmem
          have Hmem := Aside0.mk hmem
          have Hput := Aside0.mk hput
          have Hcons := Aside0.mk hcons
          have Hzero := Aside0.mk hzero
          clear hmem hput hcons hzero
          go_wp2_with fail
          refine (has_st w wr g _ _ hQ hw).mono ?_
          rintro e w4 ⟨rfl, rfl⟩
          rw [decide_eq_true Hmem.out]
          go_wp2_with fail
          refine (put_one w wr g _ ((c : Int) * 7) hQ hw2).mono ?_
          rintro e w5 ⟨rfl, h5⟩
          rw [Hput.out] at h5 ⊢
          rw [Hcons.out] at h5
          by_cases hqc : q ≤ c
          · rw [Hzero.out hqc]
            go_wp2_with fail
            refine (next_some_st w w5 g _ _ h5).mono ?_
            rintro e w6 ⟨rfl, h6⟩
            go_wp2_with fail
            go_roundw
            case rel => exact ⟨q + 1, by omega, by go_num, h6⟩
            case measure => simp [intOf]; omega
          · go_wp2_with fail
            all_goals (refine (next_some_st w w5 g _ _ h5).mono ?_; rintro e w6 ⟨rfl, h6⟩; go_wp2_with fail; go_roundw)
            case rel => exact ⟨q + 1, by omega, by go_num, h6⟩
            case measure => simp [intOf]; omega
            case rel => exact ⟨q + 1, by omega, by go_num, h6⟩
            case measure => simp [intOf]; omega
        · go_wp2
          go_ret
          exact ⟨rfl, hQ.bel⟩
end Go.Proofs.Ytmaoadlighjkpaa.Qu
