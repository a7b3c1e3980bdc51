/- EqualApart: its walk. -/
import Derived.Test.YtkpadjhdneiniaaGreatDoorNb
namespace Go.Proofs.YtkpadjhdneiniaaGreatDoor.Am
set_option linter.unusedVariables false
open Go.RowKit Go.Proofs.YtkpadjhdneiniaaGreatDoorW.PrintWords Go.Proofs.YtkpadjhdneiniaaGreatDoorW.PrintLast Go.Proofs.YtkpadjhdneiniaaGreatDoorW.PrintMore Go.Maps
open Go.Proofs.YtkpadjhdneiniaaGreatDoor.Base Go.Proofs.YtkpadjhdneiniaaGreatDoor.Map Go.Proofs.YtkpadjhdneiniaaGreatDoor.Sl Go.Proofs.YtkpadjhdneiniaaGreatDoor.Ow Go.Proofs.YtkpadjhdneiniaaGreatDoor.Se Go.Proofs.YtkpadjhdneiniaaGreatDoor.Gr Go.Proofs.YtkpadjhdneiniaaGreatDoor.Rf Go.Proofs.YtkpadjhdneiniaaGreatDoor.Tx Go.Proofs.YtkpadjhdneiniaaGreatDoor.Au



open Go.Proofs.YtkpadjhdneiniaaGreatDoor.Eb
theorem Least.unique {D : List Int → Prop} {u v : List Int} (h : Least D u) (k : Least D v) : u = v := SLe.antisymm (h.2 v k.1) (k.2 u h.1)
set_option maxHeartbeats 16000000 in
set_option maxRecDepth 100000 in
theorem apart_law (A : Option Addr) (c : Nat) (T : List ByteArray) (A2 : Option Addr) (c2 : Nat) (E : List GE) (o x : Int) (w : World) (hTZ : TZ w) (hP : P10 w) (hT : RdT w A T) (hE : RdE w A2 E) (hokE : ∀ a f z, (a, f, z) ∈ E → ok64 f) (hox : ok64 o) (hxx : ok64 x) :
    Calls Tryz.prog 7 #[.agg #[.slice A T.length c, .slice A2 E.length c2], .int .i64 o, .int .i64 x] w fun e w' => e = .returned (.bool true) ∧ Below w.heap.size w w' := by
  obtain ⟨W, hW⟩ : ∃ W, w.alloc (.cells #[.slice A T.length c, .slice A2 E.length c2] 25) = W := ⟨_, rfl⟩
  have HBW := Aside0.mk (show Below w.heap.size w W by rw [← hW]; exact below_alloc (Below.refl _ _) _)
  have Hb := Aside0.mk (show W.heap[w.heap.size]? = some (.cells #[.slice A T.length c, .slice A2 E.length c2] 25 (0, 0)) by rw [← hW]; exact heap_alloc_new _ _)
  obtain ⟨g, hg⟩ : ∃ g, w.heap.size = g := ⟨_, rfl⟩
  rw [hg] at Hb
  have HAw := Aside0.mk (fun (W' : World) (hb : Below W.heap.size W W') => awake24_any W' (hTZ.below (bel_trans HBW.out hb)) (hP.below (bel_trans HBW.out hb)))
  have HLi := Aside0.mk (fun (W' : World) (hb : Below W.heap.size W W') => light_any A A2 T.length c c2 E W' (hE.below (bel_trans HBW.out hb)))
  have H := Aside0.mk (And.intro (hTZ.below HBW.out) (And.intro (hP.below HBW.out) (And.intro (hT.below HBW.out) (And.intro (hE.below HBW.out) (And.intro hokE (And.intro hox hxx))))))
  obtain ⟨nT, hnT⟩ : ∃ nT, T.length = nT := ⟨_, rfl⟩
  obtain ⟨nE, hnE⟩ : ∃ nE, E.length = nE := ⟨_, rfl⟩
  have Hn := Aside0.mk (And.intro hnT hnE)
  rw [hnT, hnE] at hW Hb HLi
  rw [hnT, hnE]
  clear hTZ hP hT hE hokE hox hxx hnT hnE
  go_enter Tryz.func7, Tryz.ntmps7
  go_wp2_with fail
  clear hW
  refine (HAw.out W (Below.refl _ _)).mono ?_
  rintro e w1 ⟨rfl, r1⟩
  have HB1 := Aside0.mk r1
  clear r1
  have g0 : w1.cell? ⟨g, 0, none⟩ = some (.slice A nT c) := blk_cellD (Ow.blk_below Hb.out HB1.out) 0 _ rfl
  have g1 : w1.cell? ⟨g, 1, none⟩ = some (.slice A2 nE c2) := blk_cellD (Ow.blk_below Hb.out HB1.out) 1 _ rfl
  go_wp2_with fail
  refine (HLi.out w1 HB1.out).mono ?_
  rintro e w2 ⟨rfl, r1⟩
  have HB2 := Aside0.mk (bel_trans HB1.out r1)
  clear r1 g0 g1
  by_cases hli : LightG nT E
  case neg =>
    have d := decide_eq_false hli
    rw [d]
    clear d hli
    go_wp2_with fail
    refine (HAw.out _ HB2.out).mono ?_
    rintro e wz ⟨rfl, rz⟩
    have HBz := Aside0.mk (bel_trans HBW.out (bel_trans HB2.out rz))
    clear rz
    go_wp2_with fail
    go_ret
    exact ⟨rfl, by have h := HBz.out; first | exact h | (rw [hg] at h; exact h)⟩
  have d := decide_eq_true hli
  rw [d]
  have HL := Aside0.mk hli
  clear d hli
  have g0 : w2.cell? ⟨g, 0, none⟩ = some (.slice A nT c) := blk_cellD (Ow.blk_below Hb.out HB2.out) 0 _ rfl
  have g1 : w2.cell? ⟨g, 1, none⟩ = some (.slice A2 nE c2) := blk_cellD (Ow.blk_below Hb.out HB2.out) 1 _ rfl
  by_cases h0 : 0 ≤ o
  case neg =>
    have e1 : decide (o < 0) = true := decide_eq_true (by omega)
    have e2 : o < 0 := by omega
    clear h0
    go_wp2_with fail
    refine (HAw.out _ HB2.out).mono ?_
    rintro e wz ⟨rfl, rz⟩
    have HBz := Aside0.mk (bel_trans HBW.out (bel_trans HB2.out rz))
    clear rz
    go_wp2_with fail
    go_ret
    exact ⟨rfl, by have h := HBz.out; first | exact h | (rw [hg] at h; exact h)⟩
  have e1 : decide (o < 0) = false := decide_eq_false (by omega)
  by_cases h1 : o < nT
  case neg =>
    have e3 : decide ((nT : Int) ≤ o) = true := decide_eq_true (by omega)
    have e4 : (nT : Int) ≤ o := by omega
    clear h1
    go_wp2_with fail
    refine (HAw.out _ HB2.out).mono ?_
    rintro e wz ⟨rfl, rz⟩
    have HBz := Aside0.mk (bel_trans HBW.out (bel_trans HB2.out rz))
    clear rz
    go_wp2_with fail
    go_ret
    exact ⟨rfl, by have h := HBz.out; first | exact h | (rw [hg] at h; exact h)⟩
  have e3 : decide ((nT : Int) ≤ o) = false := decide_eq_false (by omega)
  have e4 : ¬ (nT : Int) ≤ o := by omega
  by_cases h2 : 0 ≤ x
  case neg =>
    have e5 : decide (x < 0) = true := decide_eq_true (by omega)
    have e6 : x < 0 := by omega
    clear h2
    go_wp2_with fail
    refine (HAw.out _ HB2.out).mono ?_
    rintro e wz ⟨rfl, rz⟩
    have HBz := Aside0.mk (bel_trans HBW.out (bel_trans HB2.out rz))
    clear rz
    go_wp2_with fail
    go_ret
    exact ⟨rfl, by have h := HBz.out; first | exact h | (rw [hg] at h; exact h)⟩
  have e5 : decide (x < 0) = false := decide_eq_false (by omega)
  by_cases h3 : x < nT
  case neg =>
    have e7 : decide ((nT : Int) ≤ x) = true := decide_eq_true (by omega)
    have e8 : (nT : Int) ≤ x := by omega
    clear h3
    go_wp2_with fail
    refine (HAw.out _ HB2.out).mono ?_
    rintro e wz ⟨rfl, rz⟩
    have HBz := Aside0.mk (bel_trans HBW.out (bel_trans HB2.out rz))
    clear rz
    go_wp2_with fail
    go_ret
    exact ⟨rfl, by have h := HBz.out; first | exact h | (rw [hg] at h; exact h)⟩
  have e7 : decide ((nT : Int) ≤ x) = false := decide_eq_false (by omega)
  have e8 : ¬ (nT : Int) ≤ x := by omega
  have Ho := Aside0.mk (And.intro (And.intro h0 h1) (And.intro h2 h3))
  have HMo := Aside0.mk (fun (W' : World) (hc : Below w2.heap.size w2 W') => made_any A c T A2 c2 E o W' (H.out.1.below (bel_trans HB2.out hc)) (H.out.2.1.below (bel_trans HB2.out hc)) (H.out.2.2.1.below (bel_trans HB2.out hc)) (H.out.2.2.2.1.below (bel_trans HB2.out hc)) H.out.2.2.2.2.1 (by rw [Hn.out.1]; exact HL.out) Ho.out.1.1 (by rw [Hn.out.1]; exact Ho.out.1.2))
  have HMx := Aside0.mk (fun (W' : World) (hc : Below w2.heap.size w2 W') => made_any A c T A2 c2 E x W' (H.out.1.below (bel_trans HB2.out hc)) (H.out.2.1.below (bel_trans HB2.out hc)) (H.out.2.2.1.below (bel_trans HB2.out hc)) (H.out.2.2.2.1.below (bel_trans HB2.out hc)) H.out.2.2.2.2.1 (by rw [Hn.out.1]; exact HL.out) Ho.out.2.1 (by rw [Hn.out.1]; exact Ho.out.2.2))
  rw [Hn.out.1, Hn.out.2] at HMo HMx
  have HBr := Below.refl w2.heap.size w2
  clear h0 h2
  go_wp2_with fail
  go_region_held3 (fun W' => W'.cell? ⟨g, 0, none⟩ = some (.slice A nT c) ∧ W'.cell? ⟨g, 1, none⟩ = some (.slice A2 nE c2) ∧ Below w2.heap.size w2 W') (first | (refine ⟨pw_cell_below (w := w2) ?_ g0, pw_cell_below (w := w2) ?_ g1, ?_⟩ <;> simp [*]) | go_keep)
    (first
      | (go_at_call 38; (with_reducible refine (HMo.out _ (by simp [*])).mono ?_); rintro e w3 ⟨pa, pga, Fa, rfl, r1, r2, r3⟩; have HX0 := Aside0.mk (And.intro r1 r2); have HB9 := bel_trans (wb := w2) (by simp [*]) r3; clear r1 r2 r3)
      | (go_at_call 38; (with_reducible refine (HMx.out _ (by simp [*])).mono ?_); rintro e w3 ⟨pb, pgb, Fb, rfl, r1, r2, r3⟩; have HX0 := Aside0.mk (And.intro (HX0.out.1.below r3) (HX0.out.2.below r3)); have HX1 := Aside0.mk (And.intro r1 r2); have HB9 := bel_trans (wb := w2) (by simp [*]) r3; clear r1 r2 r3)
      | fail)
  rename_i hHeld
  have HB3 := Aside0.mk (bel_trans HB2.out HB9)
  have HAp := Aside0.mk (eapart_any pa pb pga pgb 100000 100000 T.length Fa Fb _ _ T E o x w3 HX0.out.1 HX1.out.1 HX0.out.2 HX1.out.2 rfl (by rw [Hn.out.1]; exact HL.out.2.2) HL.out.1.2 (by rw [Hn.out.1]; exact HL.out.2.1) H.out.2.2.2.2.1 Ho.out.1.1 (by rw [Hn.out.1]; exact Ho.out.1.2) Ho.out.2.1 (by rw [Hn.out.1]; exact Ho.out.2.2) rfl rfl)
  have HSm := Aside0.mk (fun (W' : World) (hc : Below w3.heap.size w3 W') => esame_any pa pb pga pgb 100000 100000 T.length Fa Fb _ _ T E o x W' (HX0.out.1.below hc) (HX1.out.1.below hc) (HX0.out.2.below hc) (HX1.out.2.below hc) rfl (by rw [Hn.out.1]; exact HL.out.2.2) HL.out.1.2 (by rw [Hn.out.1]; exact HL.out.2.1) H.out.2.2.2.2.1 Ho.out.1.1 (by rw [Hn.out.1]; exact Ho.out.1.2) Ho.out.2.1 (by rw [Hn.out.1]; exact Ho.out.2.2) rfl rfl)
  have HRa := Aside0.mk (fun (W' : World) (hc : Below w3.heap.size w3 W') => rapart_any A c T A2 c2 E o x W' ((H.out.2.2.1.below HB3.out).below hc) ((H.out.2.2.2.1.below HB3.out).below hc) (by rw [Hn.out.1]; exact HL.out) Ho.out.1.1 (by rw [Hn.out.1]; exact Ho.out.1.2) Ho.out.2.1 (by rw [Hn.out.1]; exact Ho.out.2.2))
  rw [Hn.out.1, Hn.out.2] at HRa
  clear hHeld HB9 HX0 HX1 g0 g1 HBr HMo HMx
  go_wp2_with fail
  refine HAp.out.mono ?_
  rintro e w4 ⟨r1, hcase⟩
  have HB4 := Aside0.mk r1
  have g0 : w4.cell? ⟨g, 0, none⟩ = some (.slice A nT c) := blk_cellD (Ow.blk_below Hb.out (bel_trans HB3.out HB4.out)) 0 _ rfl
  have g1 : w4.cell? ⟨g, 1, none⟩ = some (.slice A2 nE c2) := blk_cellD (Ow.blk_below Hb.out (bel_trans HB3.out HB4.out)) 1 _ rfl
  rcases hcase with ⟨u, wd, rfl, r2, -, -, r5⟩ | ⟨rfl, r2⟩
  · have HC := Aside0.mk (And.intro r2 r5)
    clear r1 r2 r5
    go_wp2_with fail
    refine (HRa.out _ HB4.out).mono ?_
    rintro e w5 ⟨r1, ⟨v, wd', rfl, r2, r5⟩ | ⟨-, r2⟩⟩
    case inr => exact absurd HC.out.2.1 (r2 _)
    obtain rfl : wd' = wd := Least.unique r5 HC.out.2
    have HB5 := Aside0.mk (bel_trans HB4.out r1)
    have HSa := Aside0.mk (same_any u v wd' wd' w5 (HC.out.1.below r1) r2)
    have HSm5 := Aside0.mk (fun (W' : World) (hc : Below w5.heap.size w5 W') => (show Calls Tryz.prog 41 #[.pointer (some ⟨pa, 0, none⟩), .pointer (some ⟨pb, 0, none⟩)] W' (fun e w' => e = .returned (.bool false) ∧ Below W'.heap.size W' w') from
      (HSm.out W' (bel_trans HB5.out hc)).mono (fun e w' ⟨⟨B, he, hB⟩, hb⟩ => ⟨by
        cases B with
        | false => exact he
        | true => exact absurd HC.out.2.1 (hB.1 rfl _), hb⟩)))
    rw [decide_eq_true (rfl : wd' = wd')] at HSa
    clear r1 r2 r5 g0 g1
    go_wp2_with fail
    refine HSa.out.mono ?_
    rintro e w6 ⟨rfl, r1⟩
    have HB6 := Aside0.mk (bel_trans HB3.out (bel_trans HB5.out r1))
    have HS6 := Aside0.mk (HSm5.out w6 r1)
    clear r1 HSa
    go_wp2_with fail
    refine HS6.out.mono ?_
    rintro e w7 ⟨rfl, r1⟩
    have HB7 := Aside0.mk (bel_trans HBW.out (bel_trans HB6.out r1))
    clear r1
    go_wp2_with fail
    go_ret
    exact ⟨rfl, by have h := HB7.out; first | exact h | (rw [hg] at h; exact h)⟩
  · have HC := Aside0.mk r2
    clear r1 r2
    go_wp2_with fail
    refine (HRa.out _ HB4.out).mono ?_
    rintro e w5 ⟨r1, ⟨v, wd', rfl, r2, r5⟩ | ⟨rfl, r2⟩⟩
    case inl => exact absurd r5.1 (HC.out _)
    have HB5 := Aside0.mk (bel_trans HB4.out r1)
    have HSa := Aside0.mk (same_any (.slice none 0 0) (.slice none 0 0) [] [] w5 (RdV.nil _) (RdV.nil _))
    have HSm5 := Aside0.mk (fun (W' : World) (hc : Below w5.heap.size w5 W') => (show Calls Tryz.prog 41 #[.pointer (some ⟨pa, 0, none⟩), .pointer (some ⟨pb, 0, none⟩)] W' (fun e w' => e = .returned (.bool true) ∧ Below W'.heap.size W' w') from
      (HSm.out W' (bel_trans HB5.out hc)).mono (fun e w' ⟨⟨B, he, hB⟩, hb⟩ => ⟨by rw [he, hB.2 HC.out], hb⟩)))
    rw [decide_eq_true (rfl : ([] : List Int) = [])] at HSa
    clear r1 r2 g0 g1
    go_wp2_with fail
    refine HSa.out.mono ?_
    rintro e w6 ⟨rfl, r1⟩
    have HB6 := Aside0.mk (bel_trans HB3.out (bel_trans HB5.out r1))
    have HS6 := Aside0.mk (HSm5.out w6 r1)
    clear r1 HSa
    go_wp2_with fail
    refine HS6.out.mono ?_
    rintro e w7 ⟨rfl, r1⟩
    have HB7 := Aside0.mk (bel_trans HBW.out (bel_trans HB6.out r1))
    clear r1
    go_wp2_with fail
    go_ret
    exact ⟨rfl, by have h := HB7.out; first | exact h | (rw [hg] at h; exact h)⟩

end Go.Proofs.YtkpadjhdneiniaaGreatDoor.Am
