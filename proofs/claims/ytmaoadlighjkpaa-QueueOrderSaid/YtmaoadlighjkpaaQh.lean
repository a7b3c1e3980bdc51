/- QueueOrder, walked. -/
import Derived.Test.YtmaoadlighjkpaaQf
namespace Go.Proofs.Ytmaoadlighjkpaa.Qu
open Go.RowKit Go.Proofs.YtmaoadlighjkpaaW.PrintWords Go.Proofs.YtmaoadlighjkpaaW.PrintLast Go.Proofs.YtmaoadlighjkpaaW.PrintMore
open Go.Proofs.Ytmaoadlighjkpaa.Base Go.Proofs.Ytmaoadlighjkpaa.Map Go.Proofs.Ytmaoadlighjkpaa.Ca Go.Maps
set_option linter.unusedVariables false

theorem ord_put (q p : Nat) (h : q ≤ p) (hp : p < 1048576) : put1 (seqL 1 q (p - q)) (p : Int) = seqL 1 q (p + 1 - q) ∧ (((seqL 1 q (p + 1 - q)).length : Int) - (seqL 1 q (p - q)).length) = 1 := by
  constructor
  · rw [show p + 1 - q = (p - q) + 1 by omega, seqL_snoc, put1_new _ _ (by omega) (fun h => by obtain ⟨i, hi, he⟩ := mem_seqL.1 h; omega)]
    congr 2; omega
  · rw [seqL_len, seqL_len]; omega
theorem ord_next (q p : Nat) (h : q < p) : seqL 1 q (p - q) = (q : Int) :: seqL 1 (q + 1) (p - (q + 1)) := by
  rw [show p - q = (p - (q + 1)) + 1 by omega, seqL_cons, Nat.one_mul]

set_option maxHeartbeats 4000000 in
set_option maxRecDepth 100000 in
theorem queueOrder_walk (n : Int) (bs : List Bool) (A : Option Addr) (c : Nat) (w : World) (hn0 : 0 ≤ n) (hn1 : n ≤ 255) (hc : bs.length ≤ c) (hr : Kd.bool.C w A bs.length bs) :
    Calls Try.prog 6 #[.int .u8 n, .slice A bs.length c] w fun e w' => e = .returned (.bool true) ∧ Below w.heap.size w w' := by
  by_cases h10 : (300 : Int) < bs.length
  · go_enter Try.func6, Try.ntmps6
    go_wp2_with fail
    refine (awake_any _).mono ?_
    rintro e w1 ⟨rfl, h1⟩
    go_wp2_with fail
    refine (awake_any _).mono ?_
    rintro e w2 ⟨rfl, h2⟩
    go_wp2
    go_ret
    exact ⟨rfl, bel_trans h1 h2⟩
  · obtain ⟨k, hk⟩ : ∃ k : Nat, n % 5 = (k : Int) := ⟨(n % 5).toNat, by omega⟩
    have hk5 : k ≤ 4 := by omega
    have Hc := Aside0.mk hc
    have Hk := Aside0.mk hk
    clear hc hk
    go_enter Try.func6, Try.ntmps6
    go_wp2_with fail
    refine (awake_any _).mono ?_
    rintro e w1 ⟨rfl, h1⟩
    go_wp2_with fail
    refine (new_st w w1 h1).mono ?_
    rintro e w2 ⟨g, rfl, h2⟩
    go_wp2_with fail
    clear h1
    go_loopw [6, 7, 8] (fun P N I wr => ∃ p q i : Nat, P = .int .i64 p ∧ N = .int .i64 q ∧ I = .int .i64 i ∧ q ≤ p ∧ p ≤ 5 * i ∧ i ≤ bs.length ∧ QSt w wr g (seqL 1 q (p - q))) (fun _ _ i _ => bs.length - (intOf i).toNat)
    case atStart => exact ⟨0, 0, 0, rfl, rfl, rfl, Nat.le_refl _, Nat.zero_le _, Nat.zero_le _, h2⟩
    case round =>
      obtain ⟨p, q, i, rfl, rfl, rfl, hqp, hp5, hi, hQ⟩ := hrel
      by_cases hlt : i < bs.length
      · obtain ⟨ad, hA, hx⟩ := Kd.at_bool (Kd.C_below hr hQ.bel) i (by omega) (by omega)
        rw [Int.toNat_natCast] at hx
        subst hA
        have i0 : (0 : Int) ≤ (i : Int) := by omega
        have i1 : (i : Int) < (bs.length : Int) := by omega
        cases hb : rdOf false bs i
        · rw [hb] at hx
          go_wp2_with fail
          clear i0 i1 hx hb
          go_loopw [6, 9] (fun P J wr => ∃ p2 j : Nat, P = .int .i64 p2 ∧ J = .int .i64 j ∧ q ≤ p2 ∧ j ≤ k + 1 ∧ p2 ≤ 5 * i + j ∧ QSt w wr g (seqL 1 q (p2 - q))) (fun _ j _ => k + 1 - (intOf j).toNat)
          case atStart => exact ⟨p, 0, rfl, rfl, hqp, by omega, by omega, hQ⟩
          case round =>
            obtain ⟨p2, j, rfl, rfl, hqp2, hj, hp52, hQ⟩ := hrel
            by_cases hlt2 : j ≤ k
            · obtain ⟨hp, hl⟩ := ord_put q p2 hqp2 (by omega)
              have hw : (Lit.int .i64 (p2 : Int)).wf = true := WalkArith.wf_i64 (by omega)
              have HP := Aside0.mk hp
              have HL := Aside0.mk hl
              have hk := Hk.out
              have Hk2 := Hk
              clear hp hl
              go_wp2_with fail
              refine (put_one w wr g _ _ hQ hw).mono ?_
              rintro e w3 ⟨rfl, h3⟩
              rw [HP.out] at h3 ⊢
              rw [HL.out]
              go_wp2_with fail
              go_roundw
              case rel => exact ⟨p2 + 1, j + 1, by go_num, by go_num, by omega, by omega, by omega, h3⟩
              case measure => simp [intOf]; omega
            · have hk := Hk.out
              go_wp2_with fail
              go_roundw
              case rel => exact ⟨p2, q, i + 1, rfl, rfl, by go_num, by omega, by omega, by omega, hQ⟩
              case measure => simp [intOf]; omega
        · rw [hb] at hx
          by_cases hqp2 : q < p
          · have hn := ord_next q p hqp2
            rw [hn] at hQ
            clear hn
            go_wp2_with fail
            refine (next_some_st w wr g _ _ hQ).mono ?_
            rintro e w3 ⟨rfl, h3⟩
            go_wp2_with fail
            go_roundw
            case rel => exact ⟨p, q + 1, i + 1, rfl, by go_num, by go_num, by omega, by omega, by omega, h3⟩
            case measure => simp [intOf]; omega
          · obtain rfl : q = p := by omega
            rw [Nat.sub_self] at hQ
            go_wp2_with fail
            refine (next_none_st w wr g hQ).mono ?_
            rintro e w3 ⟨rfl, h3⟩
            go_wp2_with fail
            go_roundw
            case rel => exact ⟨q, q, i + 1, rfl, rfl, by go_num, by omega, by omega, by omega, by rw [Nat.sub_self]; exact h3⟩
            case measure => simp [intOf]; omega
      · have hl : ((seqL 1 q (p - q)).length : Int) = p - q := by rw [seqL_len]; omega
        have Hl := Aside0.mk hl
        clear hl
        go_wp2_with fail
        refine (len_st w wr g _ hQ).mono ?_
        rintro e w4 ⟨rfl, h4⟩
        rw [Hl.out]
        go_wp2
        go_ret
        exact ⟨by simp, h4.bel⟩
end Go.Proofs.Ytmaoadlighjkpaa.Qu
