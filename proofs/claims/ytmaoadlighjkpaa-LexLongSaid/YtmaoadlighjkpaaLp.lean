/- lex: LexLong's walk. -/
import Derived.Test.YtmaoadlighjkpaaLo
namespace Go.Proofs.Ytmaoadlighjkpaa.Lx
open Go.RowKit Go.Proofs.YtmaoadlighjkpaaW.PrintWords Go.Proofs.YtmaoadlighjkpaaW.PrintLast Go.Proofs.YtmaoadlighjkpaaW.PrintMore
open Go.Proofs.Ytmaoadlighjkpaa.Base Go.Proofs.Ytmaoadlighjkpaa.PLexTokens Go.Proofs.Ytmaoadlighjkpaa.Map
set_option linter.unusedVariables false

attribute [local go_sem high] eqA107 eqA109 eqA116
set_option maxHeartbeats 4000000 in
set_option maxRecDepth 100000 in
theorem lexLong_walk (n : Int) (w : World) : Calls Try.prog 18 #[.int .i64 n] w fun e w' => e = .returned (.bool true) ∧ Below w.heap.size w w' := by
  by_cases h0 : n < 0
  · go_enter Try.func18, Try.ntmps18
    go_wp2_with fail
    refine (awake_any _).mono ?_
    rintro e w1 ⟨rfl, h1⟩
    go_wp2_with fail
    refine (awake_any _).mono ?_
    rintro e w2 ⟨rfl, h2⟩
    go_wp2
    go_ret
    exact ⟨rfl, bel_trans h1 h2⟩
  by_cases h3 : 30000 < n
  · go_enter Try.func18, Try.ntmps18
    go_wp2_with fail
    refine (awake_any _).mono ?_
    rintro e w1 ⟨rfl, h1⟩
    go_wp2_with fail
    refine (awake_any _).mono ?_
    rintro e w2 ⟨rfl, h2⟩
    go_wp2
    go_ret
    exact ⟨rfl, bel_trans h1 h2⟩
  obtain ⟨m, rfl⟩ := Int.eq_ofNat_of_zero_le (show 0 ≤ n by omega)
  have hm : m ≤ 30000 := by omega
  have hu107 := Try.underlying107
  have hu109 := Try.underlying109
  have hu116 := Try.underlying116
  have hM := Aside0.mk hm
  have d0 : decide ((m : Int) < 0) = false := decide_eq_false (by omega)
  have d3 : decide ((m : Int) > 30000) = false := decide_eq_false (by omega)
  have d4 : decide ((30000 : Int) < (m : Int)) = false := decide_eq_false (by omega)
  have d5 : decide (30000 < m) = false := decide_eq_false (by omega)
  clear h0 h3
  go_enter Try.func18, Try.ntmps18
  go_wp2_with fail
  refine (awake_any _).mono ?_
  rintro e w1 ⟨rfl, h1⟩
  obtain ⟨g1, g2⟩ := mk_str w1 m hM.out
  have HB := Aside0.mk (below_alloc h1 (.cells (madeCells #[.int .u8 0] m) 5))
  obtain ⟨u1, hu1⟩ : ∃ u1, w1.alloc (.cells (madeCells #[.int .u8 0] m) 5) = u1 := ⟨_, rfl⟩
  rw [hu1] at g1 g2 HB
  clear hu1 h1
  have HS := nul_size m
  rw [app_size] at HS
  obtain ⟨S, hS⟩ : ∃ S, strOfNums (List.replicate m 0) = S := ⟨_, rfl⟩
  rw [hS] at HS g2
  have n1 : ¬ (9223372036854775807 < S.size + 1) := by
    have e : ({ data := #[120] } : ByteArray).size = 1 := rfl
    omega
  replace HS := Aside0.mk hS
  clear hm hS
  go_wp2_with fail
  refine (tokens_any _ _).mono ?_
  rintro e w2 ⟨v, ⟨l, p1, p2, e0, e1, e2⟩, rfl, hT, hR, hB⟩
  obtain ⟨A, c, rfl, hc, hC⟩ := Kd.R_reads hR
  replace HB := Aside0.mk (bel_trans HB.out hB)
  have HT := Aside0.mk hT
  simp only at hC hc
  clear hT hR hC hc hB g1 g2 n1
  have gT := HT.out
  rw [← HS.out] at gT
  by_cases hlong : 20000 ≤ m
  · have := nul_long m hlong gT
    simp only [Prod.mk.injEq] at this
    obtain ⟨rfl, rfl, rfl, rfl, rfl, rfl⟩ := this
    have q1 : decide (wrap64 ((m : Int) + 1) > 20000) = true := decide_eq_true (by unfold wrap64; have := hM.out; omega)
    have q2 : decide (20000 < wrap64 ((m : Int) + 1)) = true := decide_eq_true (by unfold wrap64; have := hM.out; omega)
    clear gT hlong
    go_upto_region 4 with (fail)
    obtain ⟨B1, B2, B3⟩ := two_new w2 #[.int .i64 0, .int .i64 0] #[.int .i64 13, .int .i64 1, .int .i64 1] 107 109
    replace HB := Aside0.mk (HB.out.trans (below_low B3 HB.out.size))
    generalize (w2.alloc (.cells #[.int .i64 0, .int .i64 0] 107)).alloc (.cells #[.int .i64 13, .int .i64 1, .int .i64 1] 109) = W at *
    have c20 := cell_of B2 0 _ rfl
    have c21 := cell_of B2 1 _ rfl
    have c22 := cell_of B2 2 _ rfl
    clear B1 B2 B3
    go_wp2
    go_ret
    exact ⟨rfl, HB.out⟩
  · have q1 : decide (wrap64 ((m : Int) + 1) > 20000) = false := decide_eq_false (by unfold wrap64; have := hM.out; omega)
    have q2 : decide (20000 < wrap64 ((m : Int) + 1)) = false := decide_eq_false (by unfold wrap64; have := hM.out; omega)
    rcases Nat.eq_zero_or_pos m with h0 | h0
    · subst h0
      obtain ⟨l1, hl1, hl2⟩ := x_tok gT
      simp only [Prod.mk.injEq] at hl1
      obtain ⟨rfl, rfl, rfl, rfl, rfl, rfl⟩ := hl1
      clear gT hlong
      rw [hl2]
      go_upto_region 4 with (fail)
      obtain ⟨B1, B2, B3⟩ := two_new w2 #[.int .i64 1, .int .i64 2] #[.int .i64 0, .int .i64 0, .int .i64 0] 107 109
      replace HB := Aside0.mk (HB.out.trans (below_low B3 HB.out.size))
      generalize (w2.alloc (.cells #[.int .i64 1, .int .i64 2] 107)).alloc (.cells #[.int .i64 0, .int .i64 0, .int .i64 0] 109) = W at *
      have c0 := cell_of B1 0 _ rfl
      have c1 := cell_of B1 1 _ rfl
      have c20 := cell_of B2 0 _ rfl
      have c21 := cell_of B2 1 _ rfl
      have c22 := cell_of B2 2 _ rfl
      clear B1 B2 B3
      go_wp2
      go_ret
      exact ⟨rfl, HB.out⟩
    · have := nul_tok m h0 (by omega) gT
      simp only [Prod.mk.injEq] at this
      obtain ⟨rfl, rfl, rfl, rfl, rfl, rfl⟩ := this
      have q3 : decide ((m : Int) > 0) = true := decide_eq_true (by omega)
      have q4 : decide ((0 : Int) < (m : Int)) = true := decide_eq_true (by omega)
      have q5 : decide (0 < m) = true := decide_eq_true h0
      clear gT hlong h0
      go_upto_region 4 with (fail)
      obtain ⟨B1, B2, B3⟩ := two_new w2 #[.int .i64 0, .int .i64 0] #[.int .i64 10, .int .i64 1, .int .i64 1] 107 109
      replace HB := Aside0.mk (HB.out.trans (below_low B3 HB.out.size))
      generalize (w2.alloc (.cells #[.int .i64 0, .int .i64 0] 107)).alloc (.cells #[.int .i64 10, .int .i64 1, .int .i64 1] 109) = W at *
      have c20 := cell_of B2 0 _ rfl
      have c21 := cell_of B2 1 _ rfl
      have c22 := cell_of B2 2 _ rfl
      clear B1 B2 B3
      go_wp2
      go_ret
      exact ⟨rfl, HB.out⟩
end Go.Proofs.Ytmaoadlighjkpaa.Lx
