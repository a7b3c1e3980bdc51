/- names: the walks of Keyword, Name and LexNames. -/
import Derived.Test.YtkbbliicijnpjaaDoorNa
namespace Go.Proofs.YtkbbliicijnpjaaDoor.Lx
open Go.RowKit Go.Proofs.YtkbbliicijnpjaaDoorW.PrintWords Go.Proofs.YtkbbliicijnpjaaDoorW.PrintLast Go.Proofs.YtkbbliicijnpjaaDoorW.PrintMore
open Go.Proofs.YtkbbliicijnpjaaDoor.Base Go.Proofs.YtkbbliicijnpjaaDoor.PLexTokens Go.Proofs.YtkbbliicijnpjaaDoor.PLexNames Go.Proofs.YtkbbliicijnpjaaDoor.Map
set_option linter.unusedVariables false

/-- the keywords lie where start-up laid them -/
structure KwIn (w : World) : Prop where mk :: (out : Kd.C Kd.string w (some ⟨0, 0, none⟩) kwL.length kwL)
theorem KwIn.below {w w1 : World} (h : KwIn w) (hb : Below w.heap.size w w1) : KwIn w1 := ⟨Kd.C_below h.out hb⟩

set_option maxHeartbeats 4000000 in
set_option maxRecDepth 100000 in
theorem keyword_any (s : ByteArray) (w : World) (hK : KwIn w) : Calls Tryd.prog 9 #[.string s] w fun e w' => e = .returned (.bool (kwB s)) ∧ Below w.heap.size w w' := by
  obtain ⟨q, hq⟩ : ∃ q, kwB s = q := ⟨_, rfl⟩
  have Hf := Aside0.mk (contains_f s)
  rw [hq] at Hf ⊢
  have HK := Aside0.mk hK
  clear hK hq
  go_enter Tryd.func9, Tryd.ntmps9
  go_wp2_with fail
  go_at_call 37
  refine (slices_Contains_string_string.calls 40 (some ⟨0, 0, none⟩) 22 kwL s q _ HK.out.out (by rw [kwL_len]; exact Nat.le_refl _) Hf.out).mono ?_
  rintro e w1 ⟨rfl, h1⟩
  go_wp2
  go_ret
  exact ⟨rfl, h1.below⟩

set_option maxHeartbeats 4000000 in
set_option maxRecDepth 100000 in
theorem name_any (s : ByteArray) (w : World) (hK : KwIn w) : Calls Tryd.prog 11 #[.string s] w fun e w' => e = .returned (.bool (nameB s)) ∧ Below w.heap.size w w' := by
  by_cases h0 : s.size = 0
  · have hn : nameB s = false := by unfold nameB; rw [decide_eq_false (show ¬ 0 < s.size by omega)]; rfl
    have he : s.toList.isEmpty = true := by rw [empty_size]; simpa using h0
    rw [hn]
    clear h0 hn
    go_enter Tryd.func11, Tryd.ntmps11
    go_wp2
    go_ret
    exact ⟨rfl, Below.refl _ _⟩
  have he : s.toList.isEmpty = false := by rw [empty_size]; simpa using h0
  by_cases h1 : 32 < s.size
  · have hn : nameB s = false := by unfold nameB; rw [decide_eq_true (show 0 < s.size by omega), decide_eq_false (show ¬ s.size ≤ 32 by omega)]; rfl
    have hd : decide ((s.size : Int) > 32) = true := decide_eq_true (by omega)
    have hd2 : decide ((32 : Int) < (s.size : Int)) = true := decide_eq_true (by omega)
    have hd3 : decide (32 < s.size) = true := decide_eq_true h1
    rw [hn]
    clear h0 hn h1
    go_enter Tryd.func11, Tryd.ntmps11
    go_wp2
    go_ret
    exact ⟨rfl, Below.refl _ _⟩
  have hd : decide ((s.size : Int) > 32) = false := decide_eq_false (by omega)
  have hd2 : decide ((32 : Int) < (s.size : Int)) = false := decide_eq_false (by omega)
  have hd3 : decide (32 < s.size) = false := decide_eq_false h1
  have hx : ∀ h : 0 < s.size, ((s[0].toNat : Nat) : Int) = bt s 0 := fun h => bt_at s 0 h
  have hz : 0 < s.size := by omega
  have hz1 : (0 : Int) < (s.size : Int) := by omega
  have H1 := Aside0.mk h1
  have hnm : nameB s = (letB (bt s 0) && (!kwB s && restB s 0)) := by unfold nameB; rw [decide_eq_true hz, decide_eq_true (show s.size ≤ 32 by omega)]; rfl
  have HK := Aside0.mk hK
  clear h0 h1 hK
  replace hz := eq_true hz
  replace hz1 := eq_true hz1
  cases hl : letB (bt s 0) with
  | false =>
    have hn : nameB s = false := by rw [hnm, hl]; rfl
    rw [hn]
    have Hl := Aside0.mk hl
    clear hnm hn hl
    go_enter Tryd.func11, Tryd.ntmps11
    go_wp2_with fail
    refine (let_any _ _).mono ?_
    rintro e w1 ⟨rfl, hb1⟩
    rw [Hl.out]
    go_wp2
    go_ret
    exact ⟨rfl, hb1⟩
  | true =>
    cases hk : kwB s with
    | true =>
      have hn : nameB s = false := by rw [hnm, hl, hk]; rfl
      rw [hn]
      have Hl := Aside0.mk hl
      have Hk := Aside0.mk hk
      clear hnm hn hl hk
      go_enter Tryd.func11, Tryd.ntmps11
      go_wp2_with fail
      refine (let_any _ _).mono ?_
      rintro e w1 ⟨rfl, hb1⟩
      rw [Hl.out]
      go_wp2_with fail
      refine (keyword_any _ _ (HK.out.below hb1)).mono ?_
      rintro e w2 ⟨rfl, hb2⟩
      rw [Hk.out]
      go_wp2
      go_ret
      exact ⟨rfl, bel_trans hb1 hb2⟩
    | false =>
      have hn : nameB s = restB s 0 := by rw [hnm, hl, hk]; rfl
      rw [hn]
      have Hl := Aside0.mk hl
      have Hk := Aside0.mk hk
      clear hnm hn hl hk
      go_enter Tryd.func11, Tryd.ntmps11
      go_wp2_with fail
      refine (let_any _ _).mono ?_
      rintro e w1 ⟨rfl, hb1⟩
      rw [Hl.out]
      go_wp2_with fail
      refine (keyword_any _ _ (HK.out.below hb1)).mono ?_
      rintro e w2 ⟨rfl, hb2⟩
      rw [Hk.out]
      have HB := Aside0.mk (bel_trans hb1 hb2)
      clear hb1 hb2
      go_wp2_with fail
      go_loopw [3, 23] (fun _ C wr => ∃ j : Nat, C = .int .i64 (j : Int) ∧ j ≤ s.size ∧ Aside0 (restB s 0 = restB s j) ∧ Aside0 (Below w.heap.size w wr)) (fun _ C _ => s.size - (intOf C).toNat)
      case atStart => exact ⟨0, rfl, Nat.zero_le _, ⟨rfl⟩, HB⟩
      case round =>
        obtain ⟨j, rfl, hj, hr, hBr⟩ := hrel
        clear hx
        by_cases hin : j < s.size
        · have hnb : decide ((j : Int) < (s.size : Int)) = true := decide_eq_true (by omega)
          have hnc : decide (j < s.size) = true := decide_eq_true hin
          have hx : ∀ h : j < s.size, ((s[j].toNat : Nat) : Int) = bt s (j : Int) := fun h => bt_at s (j : Int) h
          have i0 : 0 ≤ (j : Int) := by omega
          have i1 : (j : Int) < (s.size : Int) := by omega
          have hst := restB_step s j hin
          have hw : Aside0 (wrap64 ((j : Int) + 1) = ((j + 1 : Nat) : Int)) := ⟨by have := H1.out; unfold wrap64; omega⟩
          have Hin := Aside0.mk hin
          have Hst := Aside0.mk hst
          clear hin hj hst
          replace i0 := eq_true i0
          replace i1 := eq_true i1
          cases hl : letB (bt s (j : Int)) with
          | true =>
            have Hl2 := Aside0.mk hl
            clear hl
            go_wp2_with fail
            refine (let_any _ _).mono ?_
            rintro e w3 ⟨rfl, hb3⟩
            rw [Hl2.out]
            go_wp2_with fail
            go_roundw
            case rel => exact ⟨j + 1, by rw [hw.out], Hin.out, ⟨by rw [hr.out, Hst.out, Hl2.out]; rfl⟩, ⟨bel_trans hBr.out hb3⟩⟩
            case measure => exact msr hw.out Hin.out
          | false =>
            have Hl2 := Aside0.mk hl
            clear hl
            cases hg : digB (bt s (j : Int)) with
            | true =>
              have Hg := Aside0.mk hg
              clear hg
              go_wp2_with fail
              refine (let_any _ _).mono ?_
              rintro e w3 ⟨rfl, hb3⟩
              rw [Hl2.out]
              go_wp2_with fail
              refine (dig_any _ _).mono ?_
              rintro e w4 ⟨rfl, hb4⟩
              rw [Hg.out]
              go_wp2_with fail
              go_roundw
              case rel => exact ⟨j + 1, by rw [hw.out], Hin.out, ⟨by rw [hr.out, Hst.out, Hl2.out, Hg.out]; rfl⟩, ⟨bel_trans (bel_trans hBr.out hb3) hb4⟩⟩
              case measure => exact msr hw.out Hin.out
            | false =>
              have Hg := Aside0.mk hg
              clear hg
              go_wp2_with fail
              refine (let_any _ _).mono ?_
              rintro e w3 ⟨rfl, hb3⟩
              rw [Hl2.out]
              go_wp2_with fail
              refine (dig_any _ _).mono ?_
              rintro e w4 ⟨rfl, hb4⟩
              rw [Hg.out]
              go_wp2
              go_ret
              exact ⟨by rw [hr.out, Hst.out, Hl2.out, Hg.out]; rfl, bel_trans (bel_trans hBr.out hb3) hb4⟩
        · have hnb : decide ((j : Int) < (s.size : Int)) = false := decide_eq_false (by omega)
          have hnc : decide (j < s.size) = false := decide_eq_false hin
          obtain rfl : j = s.size := by omega
          clear hin hj
          go_wp2
          go_ret
          exact ⟨by rw [hr.out, restB_end]; rfl, hBr.out⟩

attribute [local go_sem high] eqA26 eqA29 eqA33
set_option maxHeartbeats 4000000 in
set_option maxRecDepth 100000 in
theorem lexNames_walk (s : ByteArray) (w : World) (hK : KwIn w) : Calls Tryd.prog 3 #[.string s] w fun e w' => e = .returned (.bool true) ∧ Below w.heap.size w w' := by
  by_cases hs : (100 : Int) < (s.size : Int)
  · go_enter Tryd.func3, Tryd.ntmps3
    go_wp2_with fail
    refine (awake_any _).mono ?_
    rintro e w1 ⟨rfl, h1⟩
    go_wp2_with fail
    refine (awake_any _).mono ?_
    rintro e w2 ⟨rfl, h2⟩
    go_wp2
    go_ret
    exact ⟨rfl, bel_trans h1 h2⟩
  · have hu26 := Tryd.underlying26
    have hu29 := Tryd.underlying29
    have hu33 := Tryd.underlying33
    have HK := Aside0.mk hK
    obtain ⟨q, hq⟩ : ∃ q, kwB s = q := ⟨_, rfl⟩
    obtain ⟨m, hm⟩ : ∃ m, nameB s = m := ⟨_, rfl⟩
    have Hkf := Aside0.mk (kw_f s 40 (by decide))
    have Hnf := Aside0.mk (name_f s)
    rw [hq] at Hkf
    rw [hm] at Hnf
    have Hq := Aside0.mk hq
    have Hm := Aside0.mk hm
    clear hK hq hm
    go_enter Tryd.func3, Tryd.ntmps3
    go_wp2_with fail
    refine (awake_any _).mono ?_
    rintro e w1 ⟨rfl, h1⟩
    go_wp2_with fail
    refine (keyword_any _ _ (HK.out.below h1)).mono ?_
    rintro e w2 ⟨rfl, h2⟩
    rw [Hq.out]
    have HB := Aside0.mk (bel_trans h1 h2)
    clear h1 h2
    go_wp2_with fail
    refine (winnowerref05_Keyword.calls 40 s q _ Hkf.out).mono ?_
    rintro e w3 ⟨rfl, h3⟩
    replace HB := Aside0.mk (bel_trans HB.out h3)
    clear h3
    go_wp2_with fail
    refine (name_any _ _ (HK.out.below HB.out)).mono ?_
    rintro e w4 ⟨rfl, h4⟩
    rw [Hm.out]
    replace HB := Aside0.mk (bel_trans HB.out h4)
    clear h4
    go_wp2_with fail
    refine (winnowerref05_Name.calls 60 s m _ Hnf.out).mono ?_
    rintro e w5 ⟨rfl, h5⟩
    replace HB := Aside0.mk (bel_trans HB.out h5)
    clear h5
    go_wp2_with fail
    refine (tokens_any _ _).mono ?_
    rintro e w6 ⟨v, ⟨l, p1, p2, e0, e1, e2⟩, rfl, hT, hR, hB⟩
    obtain ⟨A, c, rfl, hc, hC⟩ := Kd.R_reads hR
    have hcm := Kd.C_max hC
    simp only at hcm hC hc
    replace HB := Aside0.mk (bel_trans HB.out hB)
    have HC := Aside0.mk hC
    have HT := Aside0.mk hT
    clear hT hR hC hc hB hcm
    go_upto_region 6 with (fail)
    obtain ⟨B1, B2, B3⟩ := two_new w6 #[.int .i64 p1, .int .i64 p2] #[.int .i64 e0, .int .i64 e1, .int .i64 e2] 26 29
    replace HB := Aside0.mk (HB.out.trans (below_low B3 HB.out.size))
    replace HC := Aside0.mk (Kd.C_below HC.out B3)
    obtain ⟨g4, hg4⟩ : ∃ g4, w6.heap.size = g4 := ⟨_, rfl⟩
    obtain ⟨g5, hg5⟩ : ∃ g5, g4 + 1 = g5 := ⟨_, rfl⟩
    rw [hg4] at B1 B2 B3 ⊢
    rw [hg5] at B2 ⊢
    generalize (w6.alloc (.cells #[.int .i64 p1, .int .i64 p2] 26)).alloc (.cells #[.int .i64 e0, .int .i64 e1, .int .i64 e2] 29) = W at *
    have HB2 := Aside0.mk B2
    clear B1 B2 B3 hg4 hg5
    go_wp2_with fail
    refine (winnowerref05_Name.calls 60 s m _ Hnf.out).mono ?_
    rintro e w7 ⟨rfl, h7⟩
    have hc7 := cell_of (blk_belowL HB2.out h7) 0 _ rfl
    replace HB := Aside0.mk (bel_trans HB.out h7)
    cases m with
    | false =>
      go_wp2
      go_ret
      exact ⟨rfl, HB.out⟩
    | true =>
      obtain ⟨a, b, hab⟩ := name_tok s Hm.out HT.out
      simp only [Prod.mk.injEq] at hab
      obtain ⟨rfl, rfl, rfl, rfl, rfl, rfl⟩ := hab
      obtain ⟨ad, rfl, x0, x1, x2, x3⟩ := at_T33 (Kd.C_below HC.out h7) 0 (by decide) (by simp)
      have x0 : w7.cell? ad = some (.int .i64 0) := x0
      have x1 : w7.cell? ⟨ad.block, ad.off + 1, none⟩ = some (.string s) := x1
      clear x2 x3 h7
      go_wp2
      go_ret
      exact ⟨rfl, HB.out⟩
end Go.Proofs.YtkbbliicijnpjaaDoor.Lx
