/- lex: LexTokens' walk. -/
import Derived.Test.YtmaoadlighjkpaaLm
namespace Go.Proofs.Ytmaoadlighjkpaa.Lx
open Go.RowKit Go.Proofs.YtmaoadlighjkpaaW.PrintWords Go.Proofs.YtmaoadlighjkpaaW.PrintLast Go.Proofs.YtmaoadlighjkpaaW.PrintMore
open Go.Proofs.Ytmaoadlighjkpaa.Base Go.Proofs.Ytmaoadlighjkpaa.PLexTokens Go.Proofs.Ytmaoadlighjkpaa.Map
set_option linter.unusedVariables false

theorem same_l0 (l : List S116) (hl : l.length ≤ 9223372036854775807) : ∀ (d j k : Nat), d + j = l.length → d < k → winnowerref05_Same.l0 k l l (j : Int) = some true
  | _, _, 0, _, hk => absurd hk (Nat.not_lt_zero _)
  | 0, j, k + 1, hd, hk => by rw [winnowerref05_Same.l0, if_neg (by omega)]
  | d + 1, j, k + 1, hd, hk => by
    have ih := same_l0 l hl d (j + 1) k (by omega) (by omega)
    have hw : wrap64 ((j : Int) + 1) = ((j + 1 : Nat) : Int) := by unfold wrap64; omega
    rw [winnowerref05_Same.l0, if_pos (by omega), if_pos (by omega), if_pos (by omega), if_neg (by simp), hw]
    exact ih
theorem same_f (l : List S116) (hl : l.length ≤ 9223372036854775807) : winnowerref05_Same.f (l.length + 1) l l = some true := by
  rw [winnowerref05_Same.f, if_pos rfl]
  exact same_l0 l hl l.length 0 _ rfl (Nat.lt_succ_self _)

attribute [local go_sem high] eqA107 eqA109 eqA116
set_option maxHeartbeats 4000000 in
set_option maxRecDepth 100000 in
theorem lexTokens_walk (s : ByteArray) (w : World) : Calls Try.prog 17 #[.string s] w fun e w' => e = .returned (.bool true) ∧ Below w.heap.size w w' := by
  by_cases hs : (600 : Int) < (s.size : Int)
  · go_enter Try.func17, Try.ntmps17
    go_wp2_with fail
    refine (awake_any _).mono ?_
    rintro e w1 ⟨rfl, h1⟩
    go_wp2_with fail
    refine (awake_any _).mono ?_
    rintro e w2 ⟨rfl, h2⟩
    go_wp2
    go_ret
    exact ⟨rfl, bel_trans h1 h2⟩
  · have hu107 := Try.underlying107
    have hu109 := Try.underlying109
    have hu116 := Try.underlying116
    go_enter Try.func17, Try.ntmps17
    go_wp2_with fail
    refine (awake_any _).mono ?_
    rintro e w1 ⟨rfl, h1⟩
    go_wp2_with fail
    refine (tokens_any _ _).mono ?_
    rintro e w2 ⟨v, ⟨l, p1, p2, e0, e1, e2⟩, rfl, hT, hR, hB⟩
    obtain ⟨A, c, rfl, hc, hC⟩ := Kd.R_reads hR
    have hm := Kd.C_max hC
    simp only at hm hC hc
    have HT := Aside0.mk hT
    have HC := Aside0.mk hC
    have Hc := Aside0.mk hc
    have Hm := Aside0.mk hm
    have HB := Aside0.mk (bel_trans h1 hB)
    clear hT hR hC hc hm hB h1
    go_upto_region 4 with (fail)
    obtain ⟨B1, B2, B3⟩ := two_new w2 #[.int .i64 p1, .int .i64 p2] #[.int .i64 e0, .int .i64 e1, .int .i64 e2] 107 109
    have Hlt : Aside0 (w2.heap.size + 1 < ((w2.alloc (.cells #[.int .i64 p1, .int .i64 p2] 107)).alloc (.cells #[.int .i64 e0, .int .i64 e1, .int .i64 e2] 109)).heap.size) := ⟨blk_lt B2⟩
    replace HB := Aside0.mk (HB.out.trans (below_low B3 HB.out.size))
    replace HC := Aside0.mk (Kd.C_below HC.out B3)
    obtain ⟨g4, hg4⟩ : ∃ g4, w2.heap.size = g4 := ⟨_, rfl⟩
    obtain ⟨g5, hg5⟩ : ∃ g5, g4 + 1 = g5 := ⟨_, rfl⟩
    rw [hg4] at B1 B2 Hlt B3 ⊢
    rw [hg5] at B2 Hlt ⊢
    generalize (w2.alloc (.cells #[.int .i64 p1, .int .i64 p2] 107)).alloc (.cells #[.int .i64 e0, .int .i64 e1, .int .i64 e2] 109) = W at *
    have HB1 := Aside0.mk B1
    have HB2 := Aside0.mk B2
    clear B1 B2 B3 hg4 hg5
    go_wp2_with fail
    refine (winnowerref05_Tokens.calls (2 * s.size + 13) s l p1 p2 e0 e1 e2 _ (tok_ref HT.out _ (by omega))).mono ?_
    rintro e w3 ⟨v, rfl, hR, hB⟩
    obtain ⟨A2, c2, rfl, hc2, hC2⟩ := Kd.R_reads hR
    have b1 := blk_belowL HB1.out hB
    have b2 := blk_belowL HB2.out hB
    replace HB := Aside0.mk (bel_trans HB.out hB)
    replace HC := Aside0.mk (Kd.C_below HC.out hB)
    have HC2 := Aside0.mk hC2
    have Hc2 := Aside0.mk hc2
    clear HB1 HB2 hB hR hC2 hc2 Hlt
    have HB1 := Aside0.mk b1
    have HB2 := Aside0.mk b2
    clear b1 b2
    go_upto_region 5 with (fail)
    obtain ⟨B1, B2, B3⟩ := two_new w3 #[.int .i64 p1, .int .i64 p2] #[.int .i64 e0, .int .i64 e1, .int .i64 e2] 107 109
    have b1 := blk_belowL HB1.out B3
    have b2 := blk_belowL HB2.out B3
    replace HB := Aside0.mk (HB.out.trans (below_low B3 HB.out.size))
    replace HC := Aside0.mk (Kd.C_below HC.out B3)
    replace HC2 := Aside0.mk (Kd.C_below HC2.out B3)
    clear HB1 HB2
    generalize (w3.alloc (.cells #[.int .i64 p1, .int .i64 p2] 107)).alloc (.cells #[.int .i64 e0, .int .i64 e1, .int .i64 e2] 109) = W1 at *
    have c0 := cell_of B1 0 _ rfl
    have c1 := cell_of B1 1 _ rfl
    have c20 := cell_of B2 0 _ rfl
    have c21 := cell_of B2 1 _ rfl
    have c22 := cell_of B2 2 _ rfl
    have d0 := cell_of b1 0 _ rfl
    have d1 := cell_of b1 1 _ rfl
    have d20 := cell_of b2 0 _ rfl
    have d21 := cell_of b2 1 _ rfl
    have d22 := cell_of b2 2 _ rfl
    clear B1 B2 B3 b1 b2
    go_wp2_with fail
    refine (winnowerref05_Same.calls (l.length + 1) A c l A2 c2 l true _ HC.out Hc.out HC2.out Hc2.out (same_f l Hm.out)).mono ?_
    rintro e w4 ⟨rfl, ⟨m, rfl⟩⟩
    go_wp2
    go_ret
    exact ⟨rfl, bel_trans HB.out (pw_below_drewN (Below.refl _ _) m)⟩
end Go.Proofs.Ytmaoadlighjkpaa.Lx
