/- MergeWords: its walk. -/
import Derived.Test.YtkpadjhdneiniaaGreatDoorMg
import Derived.Test.YtkpadjhdneiniaaGreatDoorBe
namespace Go.Proofs.YtkpadjhdneiniaaGreatDoor.Am
set_option linter.unusedVariables false
open Go.RowKit Go.Proofs.YtkpadjhdneiniaaGreatDoorW.PrintWords Go.Proofs.YtkpadjhdneiniaaGreatDoorW.PrintLast Go.Proofs.YtkpadjhdneiniaaGreatDoorW.PrintMore Go.Maps
open Go.Proofs.YtkpadjhdneiniaaGreatDoor.Base Go.Proofs.YtkpadjhdneiniaaGreatDoor.Map Go.Proofs.YtkpadjhdneiniaaGreatDoor.Sl Go.Proofs.YtkpadjhdneiniaaGreatDoor.Ow Go.Proofs.YtkpadjhdneiniaaGreatDoor.Se Go.Proofs.YtkpadjhdneiniaaGreatDoor.Gr Go.Proofs.YtkpadjhdneiniaaGreatDoor.Rf Go.Proofs.YtkpadjhdneiniaaGreatDoor.Tx Go.Proofs.YtkpadjhdneiniaaGreatDoor.Au



open Go.Proofs.YtkpadjhdneiniaaGreatDoor.Eb Go.Proofs.YtkpadjhdneiniaaGreatDoor.St
theorem words_at {T : List ByteArray} {E : List GE} {M : Nat → Bool} {S : Nat → Nat → Bool} (hL : LightG T.length E) (hM : ∀ i, M i = true ↔ MayG T E 1000 (i : Int)) (hS : ∀ j i, S j i = true ↔ ∀ v, ¬ Df T E [(j : Int)] [(i : Int)] v) (l : List Int) (i : Nat) (hne : mapG M S i ≠ (i : Int)) :
    (tyG T (ledG E (i : Int) l)).length ≤ 1 ∧ tyG T (ledG E (i : Int) l) = tyG T (ledG E (mapG M S i) l) := by
  cases hMi : M i with
  | false => exact absurd (by unfold mapG; rw [if_neg (by rw [hMi]; simp)]) hne
  | true =>
    obtain ⟨m, h1, h2, h3, h4, h5⟩ := map_first (same_eqv hS) hMi
    rw [h2]
    refine ⟨?_, (Classical.byContradiction (fun e => (hS m i).1 h4 l e) : tyG T (ledS E [(m : Int)] l) = tyG T (ledS E [(i : Int)] l)).symm⟩
    obtain ⟨⟨g0, g1⟩, g2, g3⟩ := (hM i).1 hMi
    rcases run_cases hL.2.1 g0 g1 rfl l with ⟨_, k, e3, e4, e5⟩ | ⟨e2, e3⟩
    · rw [← e5]
      have := g3 _ (getD_mem (d := ([] : List Int)) e4) _ (tyG_is T _)
      omega
    · rw [e2]
      have := (tyG_is T []).len
      rw [List.length_nil] at this
      omega
theorem map_in {M : Nat → Bool} {S : Nat → Nat → Bool} (hS : Eqv S) {n i : Nat} (hi : i < n) : 0 ≤ mapG M S i ∧ mapG M S i < (n : Int) := by
  cases hM : M i with
  | false => unfold mapG; rw [if_neg (by rw [hM]; simp)]; omega
  | true => obtain ⟨m, h1, h2, _⟩ := map_first hS hM; rw [h2]; omega
set_option maxHeartbeats 16000000 in
set_option maxRecDepth 100000 in
theorem mwords_law (A : Option Addr) (c : Nat) (T : List ByteArray) (A2 : Option Addr) (c2 : Nat) (E : List GE) (v : Value) (l : List Int) (w : World) (hTZ : TZ w) (hP : P10 w) (hT : RdT w A T) (hE : RdE w A2 E) (hokE : ∀ a f z, (a, f, z) ∈ E → ok64 f) (hTs : ∀ s ∈ T, s.size ≤ maxLen) (hv : RdV w v l) (hokl : ∀ y ∈ l, ok64 y) :
    Calls Tryz.prog 13 #[.agg #[.slice A T.length c, .slice A2 E.length c2], v] w fun e w' => e = .returned (.bool true) ∧ Below w.heap.size w w' := by
  obtain ⟨AV, cV, rfl, hcV, hrV⟩ := hv
  have hmx := hrV.max
  obtain ⟨W, hW⟩ : ∃ W, w.alloc (.cells #[.slice A T.length c, .slice A2 E.length c2] 25) = W := ⟨_, rfl⟩
  have HBW := Aside0.mk (show Below w.heap.size w W by rw [← hW]; exact below_alloc (Below.refl _ _) _)
  have Hb := Aside0.mk (show W.heap[w.heap.size]? = some (.cells #[.slice A T.length c, .slice A2 E.length c2] 25 (0, 0)) by rw [← hW]; exact heap_alloc_new _ _)
  obtain ⟨g, hg⟩ : ∃ g, w.heap.size = g := ⟨_, rfl⟩
  rw [hg] at Hb
  have HAw := Aside0.mk (fun (W' : World) (hb : Below W.heap.size W W') => awake25_any W' (hTZ.below (bel_trans HBW.out hb)) (hP.below (bel_trans HBW.out hb)))
  have HLi := Aside0.mk (fun (W' : World) (hb : Below W.heap.size W W') => light_any A A2 T.length c c2 E W' (hE.below (bel_trans HBW.out hb)))
  have H := Aside0.mk (And.intro (hTZ.below HBW.out) (And.intro (hP.below HBW.out) (And.intro (hT.below HBW.out) (And.intro (hE.below HBW.out) (And.intro hokE hTs)))))
  obtain ⟨nT, hnT⟩ : ∃ nT, T.length = nT := ⟨_, rfl⟩
  obtain ⟨nE, hnE⟩ : ∃ nE, E.length = nE := ⟨_, rfl⟩
  have Hn := Aside0.mk (And.intro hnT hnE)
  have HV := Aside0.mk (RdV.below (v := .slice AV l.length cV) ⟨AV, cV, rfl, hcV, hrV⟩ HBW.out)
  have Hokl := Aside0.mk hokl
  obtain ⟨nl, hnl⟩ : ∃ nl, l.length = nl := ⟨_, rfl⟩
  have Hnl := Aside0.mk hnl
  rw [hnT, hnE] at hW Hb HLi
  rw [hnl] at HV hmx ⊢
  rw [hnT, hnE]
  clear hTZ hP hT hE hokE hTs hnT hnE hnl hokl hcV hrV
  go_enter Tryz.func13, Tryz.ntmps13
  go_wp2_with fail
  try simp only [hg, hW]
  clear hW
  refine (HAw.out W (Below.refl _ _)).mono ?_
  rintro e w1 ⟨rfl, r1⟩
  have HB1 := Aside0.mk r1
  clear r1
  have g0 : w1.cell? ⟨g, 0, none⟩ = some (.slice A nT c) := blk_cellD (Ow.blk_below Hb.out HB1.out) 0 _ rfl
  have g1 : w1.cell? ⟨g, 1, none⟩ = some (.slice A2 nE c2) := blk_cellD (Ow.blk_below Hb.out HB1.out) 1 _ rfl
  go_wp2_with fail
  refine (HLi.out w1 HB1.out).mono ?_
  rintro e w2 ⟨rfl, r1⟩
  have HB2 := Aside0.mk (bel_trans HB1.out r1)
  clear r1 g0 g1
  by_cases hli : LightG nT E
  case neg =>
    have d := decide_eq_false hli
    rw [d]
    clear d hli
    go_wp2_with fail
    refine (HAw.out _ HB2.out).mono ?_
    rintro e wz ⟨rfl, rz⟩
    have HBz := Aside0.mk (bel_trans HBW.out (bel_trans HB2.out rz))
    clear rz
    go_wp2_with fail
    go_ret
    exact ⟨rfl, by have h := HBz.out; first | exact h | (rw [hg] at h; exact h)⟩
  have d := decide_eq_true hli
  rw [d]
  have HLn := Aside0.mk hli
  have HL := Aside0.mk (show LightG T.length E by rw [Hn.out.1]; exact hli)
  clear d hli
  have g0 : w2.cell? ⟨g, 0, none⟩ = some (.slice A nT c) := blk_cellD (Ow.blk_below Hb.out HB2.out) 0 _ rfl
  have g1 : w2.cell? ⟨g, 1, none⟩ = some (.slice A2 nE c2) := blk_cellD (Ow.blk_below Hb.out HB2.out) 1 _ rfl
  by_cases h30 : nl ≤ 30
  case neg =>
    have d1 : decide ((30 : Int) < (nl : Int)) = true := decide_eq_true (by omega)
    have d2 : (30 : Int) < (nl : Int) := by omega
    clear h30
    go_wp2_with fail
    refine (HAw.out _ HB2.out).mono ?_
    rintro e wz ⟨rfl, rz⟩
    have HBz := Aside0.mk (bel_trans HBW.out (bel_trans HB2.out rz))
    clear rz
    go_wp2_with fail
    go_ret
    exact ⟨rfl, by have h := HBz.out; first | exact h | (rw [hg] at h; exact h)⟩
  have d1 : decide ((30 : Int) < (nl : Int)) = false := decide_eq_false (by omega)
  have d2 : ¬ (30 : Int) < (nl : Int) := by omega
  have H30 := Aside0.mk h30
  clear h30
  have HNw := Aside0.mk (new_any A c T A2 c2 E w2 (H.out.2.2.1.below HB2.out) (H.out.2.2.2.1.below HB2.out) (by have h := HL.out.2.2; omega) (by have h := HL.out.1.2; omega) H.out.2.2.2.2.1 HL.out.2.1)
  rw [Hn.out.1, Hn.out.2] at HNw
  go_wp2_with fail
  refine HNw.out.mono ?_
  rintro e w3 ⟨pg, lab, rfl, r1, r2⟩
  have HG3 := Aside0.mk (GA.mk ⟨lab, r1⟩)
  have HB3 := Aside0.mk (bel_trans HB2.out r2)
  clear r1 r2 HNw g0 g1
  have HMp := Aside0.mk (fun (W' : World) (hc : Below w3.heap.size w3 W') (most : Int) (hm : ok64 most) (M : Nat → Bool) (hM : ∀ i, M i = true ↔ MayG T E most (i : Int)) (S : Nat → Nat → Bool) (hS : ∀ j i, S j i = true ↔ ∀ v, ¬ Df T E [(j : Int)] [(i : Int)] v) => map_any pg T E most W' (HG3.out.below hc) (H.out.1.below (bel_trans HB3.out hc)) (H.out.2.1.below (bel_trans HB3.out hc)) HL.out H.out.2.2.2.2.1 hm H.out.2.2.2.2.2 M hM S hS)
  obtain ⟨S, hS⟩ := same_bools T E
  have HS := Aside0.mk hS
  have HQ := Aside0.mk (same_eqv hS)
  clear hS
  rw [Hn.out.1] at HMp
  obtain ⟨M, hM⟩ := may_bools T E 1000
  have HM := Aside0.mk hM
  clear hM
  have HMp1 := Aside0.mk (HMp.out w3 (Below.refl _ _) 1000 (by decide) M HM.out S HS.out)
  clear HMp d1 d2
  go_wp2_with fail
  refine HMp1.out.mono ?_
  rintro e w4 ⟨u, rfl, r1, r2⟩
  have HB4 := Aside0.mk r2
  obtain ⟨A3, c3, hu3, -, hI4⟩ := r1.toV
  have HU4 := Aside0.mk hI4
  clear hI4
  subst hu3
  rw [mapL_len]
  have g0 : w4.cell? ⟨g, 0, none⟩ = some (.slice A nT c) := blk_cellD (Ow.blk_below Hb.out (bel_trans HB3.out HB4.out)) 0 _ rfl
  have g1 : w4.cell? ⟨g, 1, none⟩ = some (.slice A2 nE c2) := blk_cellD (Ow.blk_below Hb.out (bel_trans HB3.out HB4.out)) 1 _ rfl
  clear r1 r2 HMp1
  have n8 : (nT : Int) ≤ 8 := by have := HLn.out.2.2; omega
  go_wp2_with fail
  go_loopw [9] (fun I wx => ∃ i : Nat, I = .int .i64 (i : Int) ∧ i ≤ nT ∧ Aside0 (Below w4.heap.size w4 wx)) (fun I _ => nT - (intOf I).toNat)
  case atStart => exact ⟨0, rfl, by omega, Aside0.mk (Below.refl _ _)⟩
  case round =>
    obtain ⟨i, rfl, hi, HBx⟩ := hrel
    rename World => wx
    by_cases hin : i < nT
    · have hnb : decide ((i : Int) < (nT : Int)) = true := decide_eq_true (by omega)
      have Hin := Aside0.mk hin
      obtain ⟨ad, rfl, e1⟩ := (RdI.below HU4.out HBx.out).at_ (i : Int) (by omega) (by rw [mapL_len]; omega)
      have e1 : wx.cell? (ad.add i) = some (.int .i64 (mapG M S i)) := by rw [← mapL_get M S hin]; simpa [rd] using e1
      obtain ⟨i0, i1⟩ := map_in (M := M) HQ.out hin
      obtain ⟨t, ht⟩ : ∃ t, mapG M S i = t := ⟨_, rfl⟩
      rw [ht] at e1 i0 i1
      have g0 : wx.cell? ⟨g, 0, none⟩ = some (.slice A nT c) := bel_cell HBx.out g0
      have g1 : wx.cell? ⟨g, 1, none⟩ = some (.slice A2 nE c2) := bel_cell HBx.out g1
      have HBr := Below.refl wx.heap.size wx
      have j0 : 0 ≤ (i : Int) := by omega
      have j1 : (i : Int) < (nT : Int) := by omega
      have j2 : decide (t < 0) = false := decide_eq_false (by omega)
      have j3 : decide ((nT : Int) ≤ t) = false := decide_eq_false (by omega)
      have j4 : ¬ t < 0 := by omega
      have j5 : ¬ (nT : Int) ≤ t := by omega
      have Ht := Aside0.mk ht
      clear hin hi ht
      have HL1 := Aside0.mk (fun (W' : World) (hb : Below wx.heap.size wx W') => rled_any A A2 nT c c2 E (i : Int) _ l W' ((H.out.2.2.2.1.below (bel_trans HB3.out (bel_trans HB4.out HBx.out))).below hb) ((HV.out.below (bel_trans HB3.out (bel_trans HB4.out HBx.out))).below hb) (by have h := HL.out.1.2; omega) (by have := Hnl.out; have := H30.out; omega))
      have HL2 := Aside0.mk (fun (W' : World) (hb : Below wx.heap.size wx W') => rled_any A A2 nT c c2 E t _ l W' ((H.out.2.2.2.1.below (bel_trans HB3.out (bel_trans HB4.out HBx.out))).below hb) ((HV.out.below (bel_trans HB3.out (bel_trans HB4.out HBx.out))).below hb) (by have h := HL.out.1.2; omega) (by have := Hnl.out; have := H30.out; omega))
      rw [Hn.out.2] at HL1 HL2
      have q1 : (ledG E (i : Int) l).length ≤ 8 := by have h : (ledG E (i : Int) l).length ≤ T.length := (ledS_sm HL.out.2.1 l [(i : Int)] (sm_one j0 (by rw [Hn.out.1]; exact j1))).len; have := Hn.out.1; omega
      have q2 : (ledG E t l).length ≤ 8 := by have h : (ledG E t l).length ≤ T.length := (ledS_sm HL.out.2.1 l [t] (sm_one i0 (by rw [Hn.out.1]; exact i1))).len; have := Hn.out.1; omega
      have HT1 := Aside0.mk (fun (W' : World) (hb : Below wx.heap.size wx W') (u : Value) (hu : RdV W' u (ledG E (i : Int) l)) => rtypesT_any A A2 c nE c2 T u (ledG E (i : Int) l) W' ((H.out.2.2.1.below (bel_trans HB3.out (bel_trans HB4.out HBx.out))).below hb) hu (by have := Hn.out.1; omega) (by omega))
      have HT2 := Aside0.mk (fun (W' : World) (hb : Below wx.heap.size wx W') (u : Value) (hu : RdV W' u (ledG E t l)) => rtypesT_any A A2 c nE c2 T u (ledG E t l) W' ((H.out.2.2.1.below (bel_trans HB3.out (bel_trans HB4.out HBx.out))).below hb) hu (by have := Hn.out.1; omega) (by omega))
      rw [Hn.out.1] at HT1 HT2
      have HWd := Aside0.mk (fun h => words_at (M := M) (S := S) (T := T) (E := E) HL.out HM.out HS.out l i h)
      rw [Ht.out] at HWd
      have q3 : (tyG T (ledG E (i : Int) l)).length ≤ 8 := by have h := (tyG_is T (ledG E (i : Int) l)).len; omega
      obtain ⟨l1, hl1⟩ : ∃ x, ledG E (i : Int) l = x := ⟨_, rfl⟩
      obtain ⟨l2, hl2⟩ : ∃ x, ledG E t l = x := ⟨_, rfl⟩
      rw [hl1] at HL1 HT1 HWd q3
      rw [hl2] at HL2 HT2 HWd
      clear q1 q2 hl1 hl2
      go_wp2_with fail
      go_region_held3 (fun W' => W'.cell? ⟨g, 0, none⟩ = some (.slice A nT c) ∧ W'.cell? ⟨g, 1, none⟩ = some (.slice A2 nE c2) ∧ W'.cell? (ad.add i) = some (.int .i64 t) ∧ Below wx.heap.size wx W') (first | (exact ⟨bel_cell HB9 g0, bel_cell HB9 g1, bel_cell HB9 e1, HB9⟩) | (refine ⟨pw_cell_below (w := wx) ?_ g0, pw_cell_below (w := wx) ?_ g1, pw_cell_below (w := wx) ?_ e1, ?_⟩ <;> simp [*]) | go_keep)
        (first
          | (go_at_call 25; (with_reducible refine (HL1.out _ (by simp [*])).mono ?_); rintro e w5 ⟨u1, rfl, r1, r3⟩; (first | (have HX2 := Aside0.mk (HX2.out.below r3)) | skip); (first | (have HX4 := Aside0.mk (HX4.out.below r3)) | skip); have HX1 := Aside0.mk r1; have HB9 := bel_trans (wb := wx) (by simp [*]) r3; clear r1 r3)
          | (go_at_call 25; (with_reducible refine (HL2.out _ (by simp [*])).mono ?_); rintro e w6 ⟨u2, rfl, r1, r3⟩; (first | (have HX1 := Aside0.mk (HX1.out.below r3)) | skip); (first | (have HX3 := Aside0.mk (HX3.out.below r3)) | skip); have HX2 := Aside0.mk r1; have HB9 := bel_trans (wb := wx) (by simp [*]) r3; clear r1 r3)
          | (go_at_call 24; (with_reducible refine (HT1.out _ (by simp [*]) _ (by first | exact HX1.out)).mono ?_); rintro e w7 ⟨u3, rfl, r1, r3⟩; (first | (have HX2 := Aside0.mk (HX2.out.below r3)) | skip); (first | (have HX4 := Aside0.mk (HX4.out.below r3)) | skip); have HX3 := Aside0.mk r1; have HB9 := bel_trans (wb := wx) (by simp [*]) r3; clear r1 r3)
          | (go_at_call 24; (with_reducible refine (HT2.out _ (by simp [*]) _ (by first | exact HX2.out)).mono ?_); rintro e w8 ⟨u4, rfl, r1, r3⟩; (first | (have HX1 := Aside0.mk (HX1.out.below r3)) | skip); (first | (have HX3 := Aside0.mk (HX3.out.below r3)) | skip); have HX4 := Aside0.mk r1; have HB9 := bel_trans (wb := wx) (by simp [*]) r3; clear r1 r3)
          | fail)
      all_goals
        obtain ⟨A5, c5, hu5, hc5, hr5⟩ := HX3.out
        subst hu5
        obtain ⟨n5, hn5⟩ : ∃ n, (tyG T l1).length = n := ⟨_, rfl⟩
        have HW5 := Aside0.mk HWd.out
        have HS3 := HX3
        have HS4 := HX4
        rw [hn5] at HS3 q3 hc5 ⊢
        have HB10 := Aside0.mk (bel_trans HBx.out HB9)
        by_cases hti : t = (i : Int)
        · have k1 : (t != (i : Int)) = false := by simp [hti]
          clear hn5 hr5 hc5
          go_wp2_with fail
          go_roundw
          case rel => exact ⟨i + 1, by go_num, by have := Hin.out; omega, HB10⟩
          case measure => have := Hin.out; simp [intOf] <;> omega
        · have k1 : (t != (i : Int)) = true := by simp [hti]
          obtain ⟨k2, k3⟩ := HW5.out hti
          have k4 : decide ((1 : Int) < (n5 : Int)) = false := decide_eq_false (by omega)
          have k5 : ¬ (1 : Int) < (n5 : Int) := by omega
          have HTx := Aside0.mk (texts_any _ _ _ _ _ HS3.out HS4.out (by omega))
          rw [decide_eq_true k3] at HTx
          clear hn5 hr5 hc5 hti k2 k3
          go_wp2_with fail
          refine HTx.out.mono ?_
          rintro e w9 ⟨rfl, r1⟩
          have HB11 := Aside0.mk (bel_trans HB10.out r1)
          clear r1 HTx
          go_wp2_with fail
          go_roundw
          case rel => exact ⟨i + 1, by go_num, by have := Hin.out; omega, HB11⟩
          case measure => have := Hin.out; simp [intOf] <;> omega
    · have hnb : decide ((i : Int) < (nT : Int)) = false := decide_eq_false (by omega)
      have hnc : ¬ (i : Int) < (nT : Int) := by omega
      have HB10 := Aside0.mk (bel_trans HBW.out (bel_trans HB3.out (bel_trans HB4.out HBx.out)))
      clear hi hin
      go_wp2_with fail
      go_ret
      exact ⟨rfl, by have h := HB10.out; first | exact h | (rw [hg] at h; exact h)⟩

end Go.Proofs.YtkpadjhdneiniaaGreatDoor.Am
