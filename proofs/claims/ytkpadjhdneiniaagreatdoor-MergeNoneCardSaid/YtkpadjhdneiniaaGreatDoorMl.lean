/- MergeNone: its walk. -/
import Derived.Test.YtkpadjhdneiniaaGreatDoorMg
import Derived.Test.YtkpadjhdneiniaaGreatDoorBe
namespace Go.Proofs.YtkpadjhdneiniaaGreatDoor.Am
set_option linter.unusedVariables false
open Go.RowKit Go.Proofs.YtkpadjhdneiniaaGreatDoorW.PrintWords Go.Proofs.YtkpadjhdneiniaaGreatDoorW.PrintLast Go.Proofs.YtkpadjhdneiniaaGreatDoorW.PrintMore Go.Maps
open Go.Proofs.YtkpadjhdneiniaaGreatDoor.Base Go.Proofs.YtkpadjhdneiniaaGreatDoor.Map Go.Proofs.YtkpadjhdneiniaaGreatDoor.Sl Go.Proofs.YtkpadjhdneiniaaGreatDoor.Ow Go.Proofs.YtkpadjhdneiniaaGreatDoor.Se Go.Proofs.YtkpadjhdneiniaaGreatDoor.Gr Go.Proofs.YtkpadjhdneiniaaGreatDoor.Rf Go.Proofs.YtkpadjhdneiniaaGreatDoor.Tx Go.Proofs.YtkpadjhdneiniaaGreatDoor.Au



open Go.Proofs.YtkpadjhdneiniaaGreatDoor.Eb Go.Proofs.YtkpadjhdneiniaaGreatDoor.St
theorem none_few {T : List ByteArray} {E : List GE} {most : Int} (hL : LightG T.length E) (hm : most ≤ 0) {M : Nat → Bool} (hM : ∀ i, M i = true ↔ MayG T E most (i : Int)) (S : Nat → Nat → Bool) (n : Nat) : mapL M S n = (List.range n).map (fun (i : Nat) => (i : Int)) := by
  have hf : ∀ i, M i = false := fun i => by
    cases h : M i with
    | false => rfl
    | true =>
      obtain ⟨⟨g0, g1⟩, g2, _⟩ := (hM i).1 h
      have h3 := (states_inv hL.2.1 g0 g1).head.length_le
      simp at h3
      omega
  refine List.ext_getElem (by rw [mapL_len]; simp) fun i h1 h2 => ?_
  rw [mapL_len] at h1
  have e := mapL_get M S h1
  rw [← List.getElem_eq_getD (h := by rw [mapL_len]; exact h1) (fallback := 0)] at e
  rw [e]
  unfold mapG
  rw [if_neg (by rw [hf]; simp)]
  simp
theorem bare_first {T : List ByteArray} {most : Int} (hm : 1 ≤ most) {M : Nat → Bool} (hM : ∀ i, M i = true ↔ MayG T [] most (i : Int)) {S : Nat → Nat → Bool} (hS : ∀ j i, S j i = true ↔ ∀ v, ¬ Df T [] [(j : Int)] [(i : Int)] v) {i k : Nat} (hi : i < T.length) (hk : k ≤ i) (he : T.getD k ByteArray.empty = T.getD i ByteArray.empty) (hne : ∀ j, j < k → T.getD j ByteArray.empty ≠ T.getD i ByteArray.empty) : mapG M S i = (k : Int) := by
  have ty : ∀ j : Nat, j < T.length → typeG T (j : Int) = T.getD j ByteArray.empty := fun j hj => by unfold typeG; rw [if_pos (by omega)]; simp
  have hMj : ∀ j, j < T.length → M j = true := fun j hj => (hM j).2 (bare_may (by omega) (by omega) hm)
  unfold mapG
  rw [if_pos (hMj i hi)]
  refine firstG_at (k := k) (fun j hj => ?_) ?_ (by omega)
  · cases hs : S j i with
    | false => simp
    | true =>
      have h := same_type ((hS j i).1 hs)
      rw [ty j (by omega), ty i hi] at h
      exact absurd h (hne j hj)
  · rw [hMj k (by omega), (hS k i).2 (bare_same (by rw [typL_one, typL_one, if_pos (by omega), if_pos (by omega), ty k (by omega), ty i hi, he]))]
    rfl
set_option maxHeartbeats 16000000 in
set_option maxRecDepth 100000 in
theorem mnone_law (A : Option Addr) (c : Nat) (T : List ByteArray) (A2 : Option Addr) (c2 : Nat) (E : List GE) (most : Int) (w : World) (hTZ : TZ w) (hP : P10 w) (hT : RdT w A T) (hE : RdE w A2 E) (hokE : ∀ a f z, (a, f, z) ∈ E → ok64 f) (hTs : ∀ s ∈ T, s.size ≤ maxLen) (hm : ok64 most) :
    Calls Tryz.prog 14 #[.agg #[.slice A T.length c, .slice A2 E.length c2], .int .i64 most] w fun e w' => e = .returned (.bool true) ∧ Below w.heap.size w w' := by
  have Hm := Aside0.mk hm
  clear hm
  obtain ⟨W, hW⟩ : ∃ W, w.alloc (.cells #[.slice A T.length c, .slice A2 E.length c2] 25) = W := ⟨_, rfl⟩
  have HBW := Aside0.mk (show Below w.heap.size w W by rw [← hW]; exact below_alloc (Below.refl _ _) _)
  have Hb := Aside0.mk (show W.heap[w.heap.size]? = some (.cells #[.slice A T.length c, .slice A2 E.length c2] 25 (0, 0)) by rw [← hW]; exact heap_alloc_new _ _)
  obtain ⟨g, hg⟩ : ∃ g, w.heap.size = g := ⟨_, rfl⟩
  rw [hg] at Hb
  have HAw := Aside0.mk (fun (W' : World) (hb : Below W.heap.size W W') => awake25_any W' (hTZ.below (bel_trans HBW.out hb)) (hP.below (bel_trans HBW.out hb)))
  have HLi := Aside0.mk (fun (W' : World) (hb : Below W.heap.size W W') => light_any A A2 T.length c c2 E W' (hE.below (bel_trans HBW.out hb)))
  have H := Aside0.mk (And.intro (hTZ.below HBW.out) (And.intro (hP.below HBW.out) (And.intro (hT.below HBW.out) (And.intro (hE.below HBW.out) (And.intro hokE hTs)))))
  obtain ⟨nT, hnT⟩ : ∃ nT, T.length = nT := ⟨_, rfl⟩
  obtain ⟨nE, hnE⟩ : ∃ nE, E.length = nE := ⟨_, rfl⟩
  have Hn := Aside0.mk (And.intro hnT hnE)
  rw [hnT, hnE] at hW Hb HLi
  rw [hnT, hnE]
  clear hTZ hP hT hE hokE hTs hnT hnE
  go_enter Tryz.func14, Tryz.ntmps14
  go_wp2_with fail
  try simp only [hg, hW]
  clear hW
  refine (HAw.out W (Below.refl _ _)).mono ?_
  rintro e w1 ⟨rfl, r1⟩
  have HB1 := Aside0.mk r1
  clear r1
  have g0 : w1.cell? ⟨g, 0, none⟩ = some (.slice A nT c) := blk_cellD (Ow.blk_below Hb.out HB1.out) 0 _ rfl
  have g1 : w1.cell? ⟨g, 1, none⟩ = some (.slice A2 nE c2) := blk_cellD (Ow.blk_below Hb.out HB1.out) 1 _ rfl
  go_wp2_with fail
  refine (HLi.out w1 HB1.out).mono ?_
  rintro e w2 ⟨rfl, r1⟩
  have HB2 := Aside0.mk (bel_trans HB1.out r1)
  clear r1 g0 g1
  by_cases hli : LightG nT E
  case neg =>
    have d := decide_eq_false hli
    rw [d]
    clear d hli
    go_wp2_with fail
    refine (HAw.out _ HB2.out).mono ?_
    rintro e wz ⟨rfl, rz⟩
    have HBz := Aside0.mk (bel_trans HBW.out (bel_trans HB2.out rz))
    clear rz
    go_wp2_with fail
    go_ret
    exact ⟨rfl, by have h := HBz.out; first | exact h | (rw [hg] at h; exact h)⟩
  have d := decide_eq_true hli
  rw [d]
  have HLn := Aside0.mk hli
  have HL := Aside0.mk (show LightG T.length E by rw [Hn.out.1]; exact hli)
  clear d hli
  have g0 : w2.cell? ⟨g, 0, none⟩ = some (.slice A nT c) := blk_cellD (Ow.blk_below Hb.out HB2.out) 0 _ rfl
  have g1 : w2.cell? ⟨g, 1, none⟩ = some (.slice A2 nE c2) := blk_cellD (Ow.blk_below Hb.out HB2.out) 1 _ rfl
  have HNw := Aside0.mk (new_any A c T A2 c2 E w2 (H.out.2.2.1.below HB2.out) (H.out.2.2.2.1.below HB2.out) (by have h := HL.out.2.2; omega) (by have h := HL.out.1.2; omega) H.out.2.2.2.2.1 HL.out.2.1)
  rw [Hn.out.1, Hn.out.2] at HNw
  go_wp2_with fail
  refine HNw.out.mono ?_
  rintro e w3 ⟨pg, lab, rfl, r1, r2⟩
  have HG3 := Aside0.mk (GA.mk ⟨lab, r1⟩)
  have HB3 := Aside0.mk (bel_trans HB2.out r2)
  clear r1 r2 HNw g0 g1
  have HMp := Aside0.mk (fun (W' : World) (hc : Below w3.heap.size w3 W') (most : Int) (hm : ok64 most) (M : Nat → Bool) (hM : ∀ i, M i = true ↔ MayG T E most (i : Int)) (S : Nat → Nat → Bool) (hS : ∀ j i, S j i = true ↔ ∀ v, ¬ Df T E [(j : Int)] [(i : Int)] v) => map_any pg T E most W' (HG3.out.below hc) (H.out.1.below (bel_trans HB3.out hc)) (H.out.2.1.below (bel_trans HB3.out hc)) HL.out H.out.2.2.2.2.1 hm H.out.2.2.2.2.2 M hM S hS)
  obtain ⟨S, hS⟩ := same_bools T E
  have HS := Aside0.mk hS
  have HQ := Aside0.mk (same_eqv hS)
  clear hS
  rw [Hn.out.1] at HMp
  have g0 : w3.cell? ⟨g, 0, none⟩ = some (.slice A nT c) := blk_cellD (Ow.blk_below Hb.out HB3.out) 0 _ rfl
  have HN2 := Aside0.mk (new_any A c T none 0 [] w3 (H.out.2.2.1.below HB3.out) (rdE_none w3) (by have h := HL.out.2.2; omega) (by simp) (fun a f z h => by cases h) (fun e h => by cases h))
  rw [Hn.out.1] at HN2
  go_wp2_with fail
  refine HN2.out.mono ?_
  rintro e w4 ⟨pg2, lab2, rfl, r1, r2⟩
  have HG4 := Aside0.mk (GA.mk ⟨lab2, r1⟩)
  have HB4 := Aside0.mk r2
  clear r1 r2 HN2 g0
  obtain ⟨M, hM⟩ := may_bools T E (min most 0)
  obtain ⟨M2, hM2⟩ := may_bools T [] (max most 1)
  obtain ⟨S2, hS2⟩ := same_bools T []
  have m0 : min most 0 ≤ 0 := Int.min_le_right _ _
  have m1 : 1 ≤ max most 1 := Int.le_max_right _ _
  have o1 : ok64 (min most 0) := by
    rcases Int.le_total most 0 with h | h
    · rw [Int.min_eq_left h]; exact Hm.out
    · rw [Int.min_eq_right h]; decide
  have o2 : ok64 (max most 1) := by
    rcases Int.le_total most 1 with h | h
    · rw [Int.max_eq_right h]; decide
    · rw [Int.max_eq_left h]; exact Hm.out
  have HMp1 := Aside0.mk (HMp.out w4 HB4.out (min most 0) o1 M hM S HS.out)
  have HL2 : LightG T.length [] := ⟨⟨HL.out.1.1, by simp⟩, (fun e h => by cases h), HL.out.2.2⟩
  have HMp2 := Aside0.mk (fun (W' : World) (hc : Below w4.heap.size w4 W') => map_any pg2 T [] (max most 1) W' (HG4.out.below hc) (H.out.1.below (bel_trans HB3.out (bel_trans HB4.out hc))) (H.out.2.1.below (bel_trans HB3.out (bel_trans HB4.out hc))) HL2 (fun a f z h => by cases h) o2 H.out.2.2.2.2.2 M2 hM2 S2 hS2)
  rw [Hn.out.1] at HMp2
  have Hfew := Aside0.mk (none_few HL.out m0 hM S nT)
  have Hfst := Aside0.mk (fun (i k : Nat) (hi : i < T.length) => bare_first (k := k) m1 hM2 hS2 hi)
  obtain ⟨x1, hx1⟩ : ∃ x, min most 0 = x := ⟨_, rfl⟩
  obtain ⟨x2, hx2⟩ : ∃ x, max most 1 = x := ⟨_, rfl⟩
  have Hx := Aside0.mk (And.intro hx1 hx2)
  rw [hx1] at HMp1
  rw [hx2] at HMp2
  clear HMp hM hM2 hS2 m0 m1 o1 o2 HL2 hx1 hx2
  have n8 : (nT : Int) ≤ 8 := by have := HLn.out.2.2; omega
  go_wp2_with fail
  rw [Hx.out.1]
  refine HMp1.out.mono ?_
  rintro e w5 ⟨u, rfl, r1, r2⟩
  have HB5 := Aside0.mk (bel_trans HB4.out r2)
  have HM2 := Aside0.mk (HMp2.out w5 r2)
  obtain ⟨A3, c3, hu3, -, hI⟩ := r1.toV
  have HI5 := Aside0.mk hI
  subst hu3
  rw [mapL_len]
  clear r1 r2 HMp1 HMp2 hI
  go_wp2_with fail
  rw [Hx.out.2]
  refine HM2.out.mono ?_
  rintro e w6 ⟨u, rfl, r1, r2⟩
  have HI5 := Aside0.mk (HI5.out.below r2)
  have HB6 := Aside0.mk (bel_trans HB5.out r2)
  obtain ⟨A4, c4, hu4, -, hI⟩ := r1.toV
  have HI6 := Aside0.mk hI
  subst hu4
  rw [mapL_len]
  have g0 : w6.cell? ⟨g, 0, none⟩ = some (.slice A nT c) := blk_cellD (Ow.blk_below Hb.out (bel_trans HB3.out HB6.out)) 0 _ rfl
  clear r1 r2 HM2 hI
  go_wp2_with fail
  clear g0
  go_loopw [13] (fun I wx => ∃ i : Nat, I = .int .i64 (i : Int) ∧ i ≤ nT ∧ Aside0 (Below w6.heap.size w6 wx)) (fun I _ => nT - (intOf I).toNat)
  case atStart => exact ⟨0, rfl, by omega, Aside0.mk (Below.refl _ _)⟩
  case round =>
    obtain ⟨i, rfl, hi, HBx⟩ := hrel
    rename World => wx
    by_cases hin : i < nT
    · have hnb : decide ((i : Int) < (nT : Int)) = true := decide_eq_true (by omega)
      have hnc : decide (i < nT) = true := decide_eq_true hin
      have Hin := Aside0.mk hin
      have j0 : 0 ≤ (i : Int) := by omega
      have j1 : (i : Int) < (nT : Int) := by omega
      clear hin hi
      go_wp2_with fail
      go_loopw [14] (fun K wy => ∃ k : Nat, K = .int .i64 (k : Int) ∧ k ≤ i ∧ Aside0 (∀ (j : Nat), j < k → T.getD j ByteArray.empty ≠ T.getD i ByteArray.empty) ∧ Aside0 (Below w6.heap.size w6 wy)) (fun K _ => i - (intOf K).toNat)
      case atStart => exact ⟨0, rfl, Nat.zero_le _, ⟨fun j h => absurd h (by omega)⟩, HBx⟩
      case round =>
        obtain ⟨k, rfl, hk, HK, HBy⟩ := hrel
        rename World => wy
        have g0 : wy.cell? ⟨g, 0, none⟩ = some (.slice A nT c) := blk_cellD (Ow.blk_below Hb.out (bel_trans HB3.out (bel_trans HB6.out HBy.out))) 0 _ rfl
        have HTy := Aside0.mk (H.out.2.2.1.below (bel_trans HB3.out (bel_trans HB6.out HBy.out)))
        have hiT : i < T.length := by rw [Hn.out.1]; exact Hin.out
        obtain ⟨aT, rfl, eT⟩ := HTy.out.at_ i hiT
        obtain ⟨aT2, haT, eT2⟩ := HTy.out.at_ k (by omega)
        cases haT
        obtain ⟨ad, rfl, e1⟩ := ((HI5.out.below HBy.out).at_ (i : Int) (by omega) (by rw [mapL_len]; have := Hin.out; omega))
        have e1 : wy.cell? (ad.add i) = some (.int .i64 ((mapL M S nT).getD i 0)) := by simpa [rd] using e1
        have ev1 : (mapL M S nT).getD i 0 = (i : Int) := by rw [Hfew.out]; simp [Hin.out]
        obtain ⟨ad2, rfl, e2⟩ := ((HI6.out.below HBy.out).at_ (i : Int) (by omega) (by rw [mapL_len]; have := Hin.out; omega))
        have e2 : wy.cell? (ad2.add i) = some (.int .i64 (mapG M2 S2 i)) := by rw [← mapL_get M2 S2 Hin.out]; simpa [rd] using e2
        rw [ev1] at e1
        obtain ⟨s, hs⟩ : ∃ s, T.getD i ByteArray.empty = s := ⟨_, rfl⟩
        obtain ⟨t, ht⟩ : ∃ s, T.getD k ByteArray.empty = s := ⟨_, rfl⟩
        rw [hs] at eT
        rw [ht] at eT2
        have i0 : 0 ≤ (i : Int) := by omega
        have i1 : (i : Int) < (nT : Int) := by have := Hin.out; omega
        have k0 : 0 ≤ (k : Int) := by omega
        have k1 : (k : Int) < (nT : Int) := by omega
        have k2 : (k : Int) ≤ 8 := by omega
        have i2 : (i : Int) ≤ 8 := by omega
        have HBd := Aside0.mk (below_drew HBy.out)
        have Hst := Aside0.mk (And.intro hs ht)
        have Hk := Aside0.mk hk
        replace i0 := eq_true i0
        replace i1 := eq_true i1
        replace k0 := eq_true k0
        replace k1 := eq_true k1
        by_cases hst : t = s
        · have hfst : mapG M2 S2 i = (k : Int) := Hfst.out i k hiT hk (by rw [hs, ht]; exact hst) HK.out
          rw [hfst] at e2
          have he := Am.Tx_eq hst
          clear hst hfst hs ht hk hiT ev1
          go_wp2_with fail
          go_region
          go_wp2_with fail
          go_roundw
          case rel => exact ⟨i + 1, by go_num, by have := Hin.out; omega, HBd⟩
          case measure => have := Hin.out; simp [intOf] <;> omega
        · have hlt : k < i := by
            rcases Nat.lt_or_eq_of_le hk with h | h
            · exact h
            · subst h; exact absurd (ht.symm.trans hs) hst
          have Hlt := Aside0.mk hlt
          have HK2 := Aside0.mk (fun (j : Nat) (hj : j < k + 1) => (show T.getD j ByteArray.empty ≠ T.getD i ByteArray.empty by
            by_cases ej : j = k
            · rw [ej, hs, ht]; exact hst
            · exact HK.out j (by omega)))
          have he := Am.Tx_ne hst
          clear hst hlt hs ht hk hiT ev1
          go_wp2_with fail
          go_region
          go_wp2_with fail
          go_roundw
          case rel => exact ⟨k + 1, by go_num, by have := Hlt.out; omega, HK2, HBd⟩
          case measure => have := Hlt.out; simp [intOf] <;> omega
    · have hnb : decide ((i : Int) < (nT : Int)) = false := decide_eq_false (by omega)
      have hnc : ¬ (i : Int) < (nT : Int) := by omega
      have HB10 := Aside0.mk (bel_trans HBW.out (bel_trans HB3.out (bel_trans HB6.out HBx.out)))
      clear hi hin
      go_wp2_with fail
      go_ret
      exact ⟨rfl, by have h := HB10.out; first | exact h | (rw [hg] at h; exact h)⟩

end Go.Proofs.YtkpadjhdneiniaaGreatDoor.Am
