/- CtxDeep, walked. -/
import Derived.Test.YtmaoadlighjkpaaCd
namespace Go.Proofs.Ytmaoadlighjkpaa.Ca
open Go.RowKit Go.Proofs.YtmaoadlighjkpaaW.PrintWords Go.Proofs.YtmaoadlighjkpaaW.PrintLast Go.Proofs.YtmaoadlighjkpaaW.PrintMore
open Go.Proofs.Ytmaoadlighjkpaa.PCtxNumbers Go.Proofs.Ytmaoadlighjkpaa.Base
attribute [local go_sem] max2_int min2_int max_two min_two

/-- the relation of the loop: the context after i rounds -/
def DeepRel (k : Int) (_ss : List Int) (i : Nat) (l : List Int) : Prop := (l.length : Int) = mn (clipI k) i

theorem deep_step (k s : Int) (ss : List Int) (i : Nat) (l : List Int) (h : DeepRel k ss i l) :
    DeepRel k ss (i + 1) (ofL k s (madeL k l)) ∧ ((madeL k l).length : Int) ≤ mx (clipI k - 1) 0 ∧ (madeL k l).length ≤ 3 ∧ ((ofL k s (madeL k l)).length : Int) = mn (clipI k) (i + 1) ∧
    (0 < clipI k → 0 < (ofL k s (madeL k l)).length ∧ rd (ofL k s (madeL k l)) (((ofL k s (madeL k l)).length : Int) - 1) = s) := by
  have hb := clipI_bd k
  unfold DeepRel at *
  have h1 : ((madeL k l).length : Int) = min (mx (clipI k - 1) 0) l.length := lastL_len _ _ (mx_le _ hb.1).1
  have h2 : ((ofL k s (madeL k l)).length : Int) = min (clipI k) (madeL k l ++ [s]).length := lastL_len _ _ hb.1
  rw [List.length_append, List.length_singleton] at h2
  have e1 : mx (clipI k - 1) 0 = max (clipI k - 1) 0 := by unfold mx; split <;> omega
  have e2 : ∀ j : Int, mn (clipI k) j = min (clipI k) j := fun j => by unfold mn; split <;> omega
  rw [e2] at h
  rw [e1] at h1 ⊢
  rw [e2, e2]
  refine ⟨by push_cast; omega, by omega, by omega, by omega, fun hp => ⟨by omega, ?_⟩⟩
  have hlen : 0 < (ofL k s (madeL k l)).length := by omega
  unfold ofL lastL at hlen ⊢
  rw [List.length_drop] at hlen
  unfold rd
  rw [List.length_drop]
  have e3 : (((((madeL k l ++ [s]).length - (((madeL k l ++ [s]).length : Int) - clipI k).toNat : Nat) : Int) - 1)).toNat = (madeL k l ++ [s]).length - (((madeL k l ++ [s]).length : Int) - clipI k).toNat - 1 := by omega
  rw [e3, List.getD_eq_getElem?_getD, List.getElem?_drop, show (((madeL k l ++ [s]).length : Int) - clipI k).toNat + ((madeL k l ++ [s]).length - (((madeL k l ++ [s]).length : Int) - clipI k).toNat - 1) = (madeL k l).length from by
    rw [List.length_append, List.length_singleton] at hlen ⊢; omega]
  simp

set_option maxHeartbeats 1000000 in
set_option maxRecDepth 100000 in
theorem ctxDeep_walk (k : Int) (u : Value) (ss : List Int) (w : World) (hr : RdV w u ss) :
    Calls Try.prog 3 #[.int .i64 k, u] w fun e w' => e = .returned (.bool true) ∧ Below w.heap.size w w' := by
  obtain ⟨A, c, rfl, hc, hr⟩ := hr
  by_cases h10 : (40 : Int) < ss.length
  · go_enter Try.func3, Try.ntmps3
    go_wp2_with fail
    refine (awake_any _).mono ?_
    rintro e w1 ⟨rfl, h1⟩
    go_wp2_with fail
    refine (awake_any _).mono ?_
    rintro e w2 ⟨rfl, h2⟩
    go_wp2
    go_ret
    exact ⟨rfl, bel_trans h1 h2⟩
  · have hb := clipI_bd k
    obtain ⟨n, hn⟩ : ∃ n, clipI k = n := ⟨_, rfl⟩
    have hn' := hn
    unfold clipI mn mx at hn'
    obtain ⟨m, hm⟩ : ∃ m, (if k < 0 then 0 else k) = m := ⟨_, rfl⟩
    rw [hm] at hn'
    rw [hn] at hb
    have Hn := Aside0.mk hn
    clear hn
    obtain ⟨hb0, hb3⟩ := hb
    have Hc := Aside0.mk hc
    clear hc
    go_enter Try.func3, Try.ntmps3
    go_wp2_with fail
    refine (awake_any _).mono ?_
    rintro e w1 ⟨rfl, h1⟩
    have hr1 := hr.below h1
    clear hr
    go_wp2_with fail
    clear hm hn'
    go_loopw [6, 7] (fun v i wr => ∃ (j : Nat) (l : List Int), j ≤ ss.length ∧ i = .int .i64 j ∧ RdV wr v l ∧ DeepRel k ss j l ∧ Below w1.heap.size w1 wr) (fun _ i _ => ss.length - (intOf i).toNat)
    case atStart => exact ⟨0, [], Nat.zero_le _, rfl, RdV.nil _, by unfold DeepRel; rw [Hn.out]; unfold mn; split <;> simp <;> omega, Below.refl _ _⟩
    case round =>
      obtain ⟨j, l, hj, rfl, hv, hD, hB⟩ := hrel
      by_cases hlt : j < ss.length
      · have hr2 := hr1.below hB
        obtain ⟨ad, hA, hs⟩ := hr2.at_ j (by omega) (by omega)
        rw [Int.toNat_natCast] at hs
        subst hA
        obtain ⟨s, hsd⟩ : ∃ s, rd ss j = s := ⟨_, rfl⟩
        rw [hsd] at hs
        have Hs := Aside0.mk hsd
        have H3 := deep_step k s ss j l hD
        rw [Hn.out] at H3
        obtain ⟨d1, d2, d3, d4, d5⟩ := H3
        have D1 := Aside0.mk d1
        have D4 := Aside0.mk d4
        have D5 := Aside0.mk d5
        have hl3 : l.length ≤ 3 := by unfold DeepRel mn at hD; rw [Hn.out] at hD; split at hD <;> omega
        have hL := Aside0.mk hl3
        clear hsd d1 d4 d5 hD hr1 hl3
        have i0 : (0 : Int) ≤ (j : Int) := by omega
        have i1 : (j : Int) < (ss.length : Int) := by omega
        have HBr := Below.refl wr.heap.size wr
        go_upto_region 8 with (fail)
        go_cut [8] (fun v8 X => ∃ (b : Nat) (A2 : Option Addr) (c2 : Nat), v8 = .pointer (some ⟨b, 0, none⟩) ∧ X.cell? ⟨b, 0, none⟩ = some (.int .i64 s) ∧ X.cell? ⟨b, 1, none⟩ = some (.slice A2 (madeL k l).length c2) ∧ RdV X (.slice A2 (madeL k l).length c2) (madeL k l) ∧ Below wr.heap.size wr X)
        case first =>
          go_region_held3 (fun w' => w'.cell? (ad.add j) = some (.int .i64 s) ∧ Below wr.heap.size wr w') (refine ⟨pw_cell_below (w := wr) ?_ hs, ?_⟩ <;> simp [*])
           (first | (go_at_call 22; (with_reducible refine (made_any k _ l _ (hv.below (by simp [*])) (by have := hL.out; omega)).mono ?_); rintro e w2 ⟨v2, rfl, H1, H2⟩; obtain ⟨hc1, hf1⟩ := bcell H2; obtain ⟨A2, c2, rfl, hc2, hr3⟩ := H1.rd; have hr4 := hr3.toV hc2; have HB1 := bel_trans (wb := wr) (by simp [*]) H2; have hz := HB1.size) | (fail))
          · go_wp2_with fail
            go_meet
            case rel => exact ⟨_, _, _, rfl, by simp, by simp, hr4.alloc _, below_alloc HB1 _⟩
          · have hb2 : w2.heap[wr.heap.size]? = some (.cells #[.int .i64 0, .slice none 0 0] 26 (0, 0)) := (H2.block _ (by simp)).trans (heap_alloc_new wr.drew _)
            have hb3 := blk_set (blk_set hb2 0 (.int .i64 s)) 1 (.slice A2 (madeL k l).length c2)
            go_wp2_with fail
            go_meet
            case rel => exact ⟨_, _, _, rfl, blk_cell hb3 0, blk_cell hb3 1, ((H1.far (by simp) _).far (by simp) _).toV, (HB1.setCell (Nat.le_refl _) _).setCell (Nat.le_refl _) _⟩
        case rest =>
          obtain ⟨b, A2, c2, rfl, x0, x1, x2, x3⟩ := hcut
          go_wp2_with fail
          refine (of_any k s _ (madeL k l) _ x2 (by omega)).mono ?_
          rintro e w3 ⟨v3, rfl, H1, H2⟩
          obtain ⟨A3, c3, rfl, hc3, hr3⟩ := H1.rd
          have y1 := bel_cell H2 x1
          have hB3 := bel_trans x3 H2
          have hs3 := pw_cell_below hB3 hs
          have hB4 := bel_trans hB hB3
          generalize hol : ofL k s (madeL k l) = l3 at *
          generalize hml : madeL k l = l2 at *
          go_upto_region 10 with (fail)
          clear H1 H2 hr2 hv x0 x1 x2 x3 HBr
          have d4 := D4.out
          have d5 := D5.out
          have w1' : IntKind.i64.wrap (n - 1) = n - 1 := IntWalk.i64_in _ (by omega)
          have w2' : IntKind.i64.wrap ((j : Int) + 1) = (j : Int) + 1 := IntWalk.i64_in _ (by omega)
          have hc3' := Aside0.mk hc3
          clear hc3 D4 D5
          unfold mn at d4
          unfold mx at d2
          by_cases hn0 : n ≤ 0
          · have e0 : l2.length = 0 ∧ l3.length = 0 := by constructor <;> (split at d2 <;> split at d4 <;> omega)
            have f1 : decide (0 < l2.length) = false := decide_eq_false (by omega)
            have f2 : ((l3.length : Int) == n) = true := beq_iff_eq.mpr (by omega)
            have f2' : ((l3.length : Int) != n) = false := by unfold bne; rw [f2]; rfl
            have f3 : decide (0 < l3.length) = false := decide_eq_false (by omega)
            clear d4 d5 d2 e0
            go_quiet (fail)
            go_wp2_with fail
            go_roundw
            case rel => exact ⟨j + 1, l3, by omega, by go_num, (hr3.toV hc3'.out).drewN nq, D1.out, pw_below_drewN hB4 nq⟩
            case measure => simp [intOf]; omega
          · have g5 := d5 (by omega)
            obtain ⟨g6, g7⟩ := g5
            have f3 : decide (0 < l3.length) = true := decide_eq_true g6
            obtain ⟨ad3, hA3, hx3⟩ := hr3.at_ ((l3.length : Int) - 1) (by omega) (by omega)
            rw [g7, show ((l3.length : Int) - 1).toNat = l3.length - 1 from by omega] at hx3
            subst hA3
            have w3' : IntKind.i64.wrap ((l3.length : Int) - 1) = (l3.length : Int) - 1 := IntWalk.i64_in _ (by have := hr3.max; omega)
            have b0 : 0 ≤ (l3.length : Int) - 1 := by omega
            have b1 : (l3.length : Int) - 1 < (l3.length : Int) := by omega
            have f1 : decide (n - 1 < (l2.length : Int)) = false := decide_eq_false (by split at d2 <;> omega)
            by_cases hjn : (j : Int) + 1 < n
            · have f2 : ((l3.length : Int) == (j : Int) + 1) = true := beq_iff_eq.mpr (by rw [if_pos hjn] at d4; exact d4)
              have f2' : ((l3.length : Int) != (j : Int) + 1) = false := by unfold bne; rw [f2]; rfl
              clear d4 d5 d2 g6 g7
              go_quiet (fail)
              go_wp2_with fail
              go_roundw
              case rel => exact ⟨j + 1, l3, by omega, by go_num, (hr3.toV hc3'.out).drewN nq, D1.out, pw_below_drewN hB4 nq⟩
              case measure => simp [intOf]; omega
            · have f2 : ((l3.length : Int) == n) = true := beq_iff_eq.mpr (by rw [if_neg hjn] at d4; exact d4)
              have f2' : ((l3.length : Int) != n) = false := by unfold bne; rw [f2]; rfl
              clear d4 d5 d2 g6 g7
              go_quiet (fail)
              go_wp2_with fail
              go_roundw
              case rel => exact ⟨j + 1, l3, by omega, by go_num, (hr3.toV hc3'.out).drewN nq, D1.out, pw_below_drewN hB4 nq⟩
              case measure => simp [intOf]; omega
      · go_wp2
        go_ret
        exact ⟨rfl, below_then h1 h1.size hB⟩
end Go.Proofs.Ytmaoadlighjkpaa.Ca
