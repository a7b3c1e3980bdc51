/- MergeMaps: its walk. -/
import Derived.Test.YtkpadjhdneiniaaGreatDoorMg
namespace Go.Proofs.YtkpadjhdneiniaaGreatDoor.Am
set_option linter.unusedVariables false
open Go.RowKit Go.Proofs.YtkpadjhdneiniaaGreatDoorW.PrintWords Go.Proofs.YtkpadjhdneiniaaGreatDoorW.PrintLast Go.Proofs.YtkpadjhdneiniaaGreatDoorW.PrintMore Go.Maps
open Go.Proofs.YtkpadjhdneiniaaGreatDoor.Base Go.Proofs.YtkpadjhdneiniaaGreatDoor.Map Go.Proofs.YtkpadjhdneiniaaGreatDoor.Sl Go.Proofs.YtkpadjhdneiniaaGreatDoor.Ow Go.Proofs.YtkpadjhdneiniaaGreatDoor.Se Go.Proofs.YtkpadjhdneiniaaGreatDoor.Gr Go.Proofs.YtkpadjhdneiniaaGreatDoor.Rf Go.Proofs.YtkpadjhdneiniaaGreatDoor.Tx Go.Proofs.YtkpadjhdneiniaaGreatDoor.Au



open Go.Proofs.YtkpadjhdneiniaaGreatDoor.Eb Go.Proofs.YtkpadjhdneiniaaGreatDoor.St
theorem bool_of (P : Prop) : ∃ B : Bool, B = true ↔ P := by
  by_cases h : P
  · exact ⟨true, by simp [h]⟩
  · exact ⟨false, by simp [h]⟩
theorem map_right {M : Nat → Bool} {S : Nat → Nat → Bool} (hS : Eqv S) (T : List ByteArray) (hT : ∀ k o, S k o = true → typeG T (k : Int) = typeG T (o : Int)) : Sb.RightM T (mapL M S T.length) := by
  refine ⟨mapL_len _ _ _, fun i hi => ?_⟩
  rw [mapL_len] at hi
  have hcl : cl (mapL M S T.length) i = mapG M S i := mapL_get M S hi
  unfold Sb.OkM
  rw [hcl]
  cases hM : M i with
  | false =>
    have e : mapG M S i = (i : Int) := by unfold mapG; rw [if_neg (by rw [hM]; simp)]
    rw [e]
    refine ⟨by omega, by omega, ?_, rfl⟩
    rw [Int.toNat_natCast, mapL_get M S hi, e]
  | true =>
    obtain ⟨m, h1, h2, h3, h4, h5⟩ := map_first hS hM
    rw [h2]
    refine ⟨by omega, by omega, ?_, hT m i h4⟩
    rw [Int.toNat_natCast, mapL_get M S (by omega)]
    obtain ⟨n, f1, f2, f3, f4, f5⟩ := map_first hS h3
    rw [f2]
    rcases Nat.lt_or_eq_of_le f1 with hl | rfl
    · have := h5 n hl f3
      rw [hS.trans n m i f4 h4] at this; cases this
    · rfl
set_option maxHeartbeats 16000000 in
set_option maxRecDepth 100000 in
theorem mmaps_law (A : Option Addr) (c : Nat) (T : List ByteArray) (A2 : Option Addr) (c2 : Nat) (E : List GE) (most o : Int) (w : World) (hTZ : TZ w) (hP : P10 w) (hT : RdT w A T) (hE : RdE w A2 E) (hokE : ∀ a f z, (a, f, z) ∈ E → ok64 f) (hTs : ∀ s ∈ T, s.size ≤ maxLen) (hm : ok64 most) (ho : ok64 o) :
    Calls Tryz.prog 15 #[.agg #[.slice A T.length c, .slice A2 E.length c2], .int .i64 most, .int .i64 o] w fun e w' => e = .returned (.bool true) ∧ Below w.heap.size w w' := by
  have Hm := Aside0.mk hm
  clear hm ho
  obtain ⟨W, hW⟩ : ∃ W, w.alloc (.cells #[.slice A T.length c, .slice A2 E.length c2] 25) = W := ⟨_, rfl⟩
  have HBW := Aside0.mk (show Below w.heap.size w W by rw [← hW]; exact below_alloc (Below.refl _ _) _)
  have Hb := Aside0.mk (show W.heap[w.heap.size]? = some (.cells #[.slice A T.length c, .slice A2 E.length c2] 25 (0, 0)) by rw [← hW]; exact heap_alloc_new _ _)
  obtain ⟨g, hg⟩ : ∃ g, w.heap.size = g := ⟨_, rfl⟩
  rw [hg] at Hb
  have HAw := Aside0.mk (fun (W' : World) (hb : Below W.heap.size W W') => awake25_any W' (hTZ.below (bel_trans HBW.out hb)) (hP.below (bel_trans HBW.out hb)))
  have HLi := Aside0.mk (fun (W' : World) (hb : Below W.heap.size W W') => light_any A A2 T.length c c2 E W' (hE.below (bel_trans HBW.out hb)))
  have H := Aside0.mk (And.intro (hTZ.below HBW.out) (And.intro (hP.below HBW.out) (And.intro (hT.below HBW.out) (And.intro (hE.below HBW.out) (And.intro hokE hTs)))))
  obtain ⟨nT, hnT⟩ : ∃ nT, T.length = nT := ⟨_, rfl⟩
  obtain ⟨nE, hnE⟩ : ∃ nE, E.length = nE := ⟨_, rfl⟩
  have Hn := Aside0.mk (And.intro hnT hnE)
  rw [hnT, hnE] at hW Hb HLi
  rw [hnT, hnE]
  clear hTZ hP hT hE hokE hTs hnT hnE
  go_enter Tryz.func15, Tryz.ntmps15
  go_wp2_with fail
  try simp only [hg, hW]
  clear hW
  refine (HAw.out W (Below.refl _ _)).mono ?_
  rintro e w1 ⟨rfl, r1⟩
  have HB1 := Aside0.mk r1
  clear r1
  have g0 : w1.cell? ⟨g, 0, none⟩ = some (.slice A nT c) := blk_cellD (Ow.blk_below Hb.out HB1.out) 0 _ rfl
  have g1 : w1.cell? ⟨g, 1, none⟩ = some (.slice A2 nE c2) := blk_cellD (Ow.blk_below Hb.out HB1.out) 1 _ rfl
  go_wp2_with fail
  refine (HLi.out w1 HB1.out).mono ?_
  rintro e w2 ⟨rfl, r1⟩
  have HB2 := Aside0.mk (bel_trans HB1.out r1)
  clear r1 g0 g1
  by_cases hli : LightG nT E
  case neg =>
    have d := decide_eq_false hli
    rw [d]
    clear d hli
    go_wp2_with fail
    refine (HAw.out _ HB2.out).mono ?_
    rintro e wz ⟨rfl, rz⟩
    have HBz := Aside0.mk (bel_trans HBW.out (bel_trans HB2.out rz))
    clear rz
    go_wp2_with fail
    go_ret
    exact ⟨rfl, by have h := HBz.out; first | exact h | (rw [hg] at h; exact h)⟩
  have d := decide_eq_true hli
  rw [d]
  have HLn := Aside0.mk hli
  have HL := Aside0.mk (show LightG T.length E by rw [Hn.out.1]; exact hli)
  clear d hli
  have g0 : w2.cell? ⟨g, 0, none⟩ = some (.slice A nT c) := blk_cellD (Ow.blk_below Hb.out HB2.out) 0 _ rfl
  have g1 : w2.cell? ⟨g, 1, none⟩ = some (.slice A2 nE c2) := blk_cellD (Ow.blk_below Hb.out HB2.out) 1 _ rfl
  have HNw := Aside0.mk (new_any A c T A2 c2 E w2 (H.out.2.2.1.below HB2.out) (H.out.2.2.2.1.below HB2.out) (by have h := HL.out.2.2; omega) (by have h := HL.out.1.2; omega) H.out.2.2.2.2.1 HL.out.2.1)
  rw [Hn.out.1, Hn.out.2] at HNw
  go_wp2_with fail
  refine HNw.out.mono ?_
  rintro e w3 ⟨pg, lab, rfl, r1, r2⟩
  have HG3 := Aside0.mk (GA.mk ⟨lab, r1⟩)
  have HB3 := Aside0.mk (bel_trans HB2.out r2)
  clear r1 r2 HNw g0 g1
  have HMp := Aside0.mk (fun (W' : World) (hc : Below w3.heap.size w3 W') (most : Int) (hm : ok64 most) (M : Nat → Bool) (hM : ∀ i, M i = true ↔ MayG T E most (i : Int)) (S : Nat → Nat → Bool) (hS : ∀ j i, S j i = true ↔ ∀ v, ¬ Df T E [(j : Int)] [(i : Int)] v) => map_any pg T E most W' (HG3.out.below hc) (H.out.1.below (bel_trans HB3.out hc)) (H.out.2.1.below (bel_trans HB3.out hc)) HL.out H.out.2.2.2.2.1 hm H.out.2.2.2.2.2 M hM S hS)
  obtain ⟨S, hS⟩ := same_bools T E
  have HS := Aside0.mk hS
  have HQ := Aside0.mk (same_eqv hS)
  clear hS
  rw [Hn.out.1] at HMp
  obtain ⟨M, hM⟩ := may_bools T E most
  have HM := Aside0.mk hM
  clear hM
  have HMp1 := Aside0.mk (HMp.out w3 (Below.refl _ _) most Hm.out M HM.out S HS.out)
  have HRm := Aside0.mk (fun (W' : World) (hc : Below w3.heap.size w3 W') => rmap_any A c T A2 c2 E most W' ((H.out.2.2.1.below HB3.out).below hc) ((H.out.2.2.2.1.below HB3.out).below hc) HL.out M HM.out S HS.out)
  rw [Hn.out.1, Hn.out.2] at HRm
  have HRt := Aside0.mk (fun (W' : World) (hc : Below w3.heap.size w3 W') (u : Value) (hu : RdV W' u (mapL M S nT)) => Sb.mright_any pg T E u (mapL M S nT) W' (HG3.out.below hc) hu (by have := HL.out.2.2; omega))
  rw [decide_eq_true (show Sb.RightM T (mapL M S nT) from by rw [← Hn.out.1]; exact map_right HQ.out T (fun k o h => same_type ((HS.out k o).1 h)))] at HRt
  have HMy := Aside0.mk (fun (W' : World) (hc : Below w3.heap.size w3 W') (x : Int) (B : Bool) (hB : B = true ↔ MayG T E most x) => mayB_any W'.heap.size pg T E x most W' (GAs.start (HG3.out.below hc)) (Nat.le_refl _) ((H.out.1.below HB3.out).below hc) ((H.out.2.1.below HB3.out).below hc) HL.out H.out.2.2.2.2.1 Hm.out B hB)
  have HRy := Aside0.mk (fun (W' : World) (hc : Below w3.heap.size w3 W') (x : Int) (B : Bool) (hB : B = true ↔ MayG T E most x) => rmay_any A c T A2 c2 E x most W' ((H.out.2.2.1.below HB3.out).below hc) ((H.out.2.2.2.1.below HB3.out).below hc) HL.out B hB)
  rw [Hn.out.1, Hn.out.2] at HRy
  have n8 : (nT : Int) ≤ 8 := by have := HLn.out.2.2; omega
  clear HMp
  go_wp2_with fail
  refine HMp1.out.mono ?_
  rintro e w4 ⟨u, rfl, r1, r2⟩
  have HU4 := Aside0.mk r1.toV
  have HB4 := Aside0.mk r2
  obtain ⟨A3, c3, hu3, -, -⟩ := r1.toV
  subst hu3
  rw [mapL_len] at HU4 ⊢
  have g0 : w4.cell? ⟨g, 0, none⟩ = some (.slice A nT c) := blk_cellD (Ow.blk_below Hb.out (bel_trans HB3.out HB4.out)) 0 _ rfl
  have g1 : w4.cell? ⟨g, 1, none⟩ = some (.slice A2 nE c2) := blk_cellD (Ow.blk_below Hb.out (bel_trans HB3.out HB4.out)) 1 _ rfl
  clear r1 r2 HMp1
  go_wp2_with fail
  refine (HRm.out w4 HB4.out).mono ?_
  rintro e w5 ⟨u5, rfl, r1, r2⟩
  have HB5 := Aside0.mk (bel_trans HB4.out r2)
  have HSa := Aside0.mk (same_any (.slice A3 nT c3) u5 _ _ w5 (HU4.out.below r2) r1)
  rw [decide_eq_true rfl] at HSa
  have HU5 := Aside0.mk (HU4.out.below r2)
  clear r1 r2 HRm g0 g1
  go_wp2_with fail
  refine HSa.out.mono ?_
  rintro e w6 ⟨rfl, r1⟩
  have HB6 := Aside0.mk (bel_trans HB5.out r1)
  have HR6 := Aside0.mk (HRt.out w6 (bel_trans HB5.out r1) _ (HU5.out.below r1))
  clear r1 HSa
  go_wp2_with fail
  refine HR6.out.mono ?_
  rintro e w7 ⟨rfl, r1⟩
  have HB7 := Aside0.mk (bel_trans HB6.out r1)
  clear r1 HR6
  go_wp2_with fail
  go_loopw [11] (fun I wx => ∃ k : Nat, I = .int .i64 ((k : Int) - 1) ∧ k ≤ nT + 2 ∧ Aside0 (Below w3.heap.size w3 wx)) (fun I _ => nT + 2 - (intOf I + 1).toNat)
  case atStart => exact ⟨0, by simp, by omega, HB7⟩
  case round =>
    obtain ⟨k, rfl, hk, HBx⟩ := hrel
    rename World => wx
    obtain ⟨i, hi⟩ : ∃ i : Int, (k : Int) - 1 = i := ⟨_, rfl⟩
    rw [hi]
    have g0 : wx.cell? ⟨g, 0, none⟩ = some (.slice A nT c) := blk_cellD (Ow.blk_below Hb.out (bel_trans HB3.out HBx.out)) 0 _ rfl
    have g1 : wx.cell? ⟨g, 1, none⟩ = some (.slice A2 nE c2) := blk_cellD (Ow.blk_below Hb.out (bel_trans HB3.out HBx.out)) 1 _ rfl
    have HBr := Below.refl wx.heap.size wx
    by_cases hin : i ≤ nT
    · have hnb : decide (i ≤ (nT : Int)) = true := decide_eq_true hin
      obtain ⟨B, hB⟩ := bool_of (MayG T E most i)
      have HMi := Aside0.mk (fun (W' : World) (hc : Below wx.heap.size wx W') => HMy.out W' (bel_trans HBx.out hc) i B hB)
      have HRi := Aside0.mk (fun (W' : World) (hc : Below wx.heap.size wx W') => HRy.out W' (bel_trans HBx.out hc) i B hB)
      have Hk := Aside0.mk (And.intro hi hin)
      have i8 : i ≤ 8 := by omega
      have i9 : -1 ≤ i := by omega
      clear hi hin hk hB
      go_wp2_with fail
      go_region_held3 (fun W' => W'.cell? ⟨g, 0, none⟩ = some (.slice A nT c) ∧ W'.cell? ⟨g, 1, none⟩ = some (.slice A2 nE c2) ∧ Below wx.heap.size wx W') (first | (exact ⟨bel_cell HB9 g0, bel_cell HB9 g1, HB9⟩) | (refine ⟨pw_cell_below (w := wx) ?_ g0, pw_cell_below (w := wx) ?_ g1, ?_⟩ <;> simp [*]) | go_keep)
        (first
          | (go_at_call 49; (with_reducible refine (HMi.out _ (by simp [*])).mono ?_); rintro e w8 ⟨rfl, r3⟩; have HB9 := bel_trans (wb := wx) (by simp [*]) r3; clear r3)
          | (go_at_call 50; (with_reducible refine (HRi.out _ (by simp [*])).mono ?_); rintro e w9 ⟨rfl, r3⟩; have HB9 := bel_trans (wb := wx) (by simp [*]) r3; clear r3)
          | fail)
      rename_i hHeld
      have HB10 := Aside0.mk (bel_trans HBx.out HB9)
      clear hHeld HB9 HBr HMi HRi g0 g1
      cases B <;>
      · go_wp2_with fail
        go_roundw
        case rel => exact ⟨k + 1, by have := Hk.out.1; go_num, by have := Hk.out; omega, HB10⟩
        case measure => have := Hk.out; simp [intOf] <;> omega
    · have hnb : decide (i ≤ (nT : Int)) = false := decide_eq_false hin
      have h1 : ¬ i ≤ (nT : Int) := hin
      obtain ⟨B, hB⟩ := bool_of (MayG T E most o)
      have HMi := Aside0.mk (fun (W' : World) (hc : Below wx.heap.size wx W') => HMy.out W' (bel_trans HBx.out hc) o B hB)
      have HRi := Aside0.mk (fun (W' : World) (hc : Below wx.heap.size wx W') => HRy.out W' (bel_trans HBx.out hc) o B hB)
      clear hi hk hB hin
      cases B <;>
      · go_wp2_with fail
        go_region_held3 (fun W' => W'.cell? ⟨g, 0, none⟩ = some (.slice A nT c) ∧ W'.cell? ⟨g, 1, none⟩ = some (.slice A2 nE c2) ∧ Below wx.heap.size wx W') (first | (exact ⟨bel_cell HB9 g0, bel_cell HB9 g1, HB9⟩) | (refine ⟨pw_cell_below (w := wx) ?_ g0, pw_cell_below (w := wx) ?_ g1, ?_⟩ <;> simp [*]) | go_keep)
          (first
            | (go_at_call 49; (with_reducible refine (HMi.out _ (by simp [*])).mono ?_); rintro e w8 ⟨rfl, r3⟩; have HB9 := bel_trans (wb := wx) (by simp [*]) r3; clear r3)
            | (go_at_call 49; (with_reducible refine (mayB_nil 0 most _).mono ?_); rintro e w10 ⟨rfl, rfl⟩)
            | (go_at_call 50; (with_reducible refine (HRi.out _ (by simp [*])).mono ?_); rintro e w9 ⟨rfl, r3⟩; have HB9 := bel_trans (wb := wx) (by simp [*]) r3; clear r3)
            | fail)
        rename_i hHeld
        have HB10 := Aside0.mk (bel_trans HBW.out (bel_trans HB3.out (bel_trans HBx.out HB9)))
        clear hHeld HB9
        go_wp2_with fail
        go_ret
        exact ⟨rfl, by have h := HB10.out; first | exact h | (rw [hg] at h; exact h)⟩

end Go.Proofs.YtkpadjhdneiniaaGreatDoor.Am
