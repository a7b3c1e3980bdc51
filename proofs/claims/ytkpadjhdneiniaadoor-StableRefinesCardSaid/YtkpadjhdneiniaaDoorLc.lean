/- StableRefines: its walk. -/
import Derived.Test.YtkpadjhdneiniaaDoorLb
namespace Go.Proofs.YtkpadjhdneiniaaDoor.Sb
set_option linter.unusedVariables false
open Go.RowKit Go.Proofs.YtkpadjhdneiniaaDoorW.PrintWords Go.Proofs.YtkpadjhdneiniaaDoorW.PrintLast Go.Proofs.YtkpadjhdneiniaaDoorW.PrintMore Go.Maps
open Go.Proofs.YtkpadjhdneiniaaDoor.Base Go.Proofs.YtkpadjhdneiniaaDoor.Map Go.Proofs.YtkpadjhdneiniaaDoor.Sl Go.Proofs.YtkpadjhdneiniaaDoor.Ow Go.Proofs.YtkpadjhdneiniaaDoor.Se Go.Proofs.YtkpadjhdneiniaaDoor.Gr Go.Proofs.YtkpadjhdneiniaaDoor.Rf Go.Proofs.YtkpadjhdneiniaaDoor.Tx Go.Proofs.YtkpadjhdneiniaaDoor.St

set_option maxHeartbeats 16000000 in
set_option maxRecDepth 100000 in
theorem refines_law (A A2 : Option Addr) (c c2 : Nat) (T : List ByteArray) (E : List GE) (u : Value) (tm : List Int) (o : Int) (w : World) (hT : TZ w) (hP : P10 w) (hRT : RdT w A T) (hRE : RdE w A2 E) (hu : RdV w u tm)
    (hok : ∀ a f z, (a, f, z) ∈ E → ok64 f) (hoa : ∀ a f z, (a, f, z) ∈ E → ok64 a) (ho : ok64 o) :
    Calls Tryd.prog 4 #[.agg #[.slice A T.length c, .slice A2 E.length c2], u, .int .i64 o] w fun e w' => e = .returned (.bool true) ∧ Below w.heap.size w w' := by
  have Ho := Aside0.mk ho
  have HAw := Aside0.mk (fun (W : World) (hb : Below w.heap.size w W) => awake_any W (hT.below hb) (hP.below hb))
  have HTP := Aside0.mk (And.intro hT hP)
  have HU := Aside0.mk hu
  have HRT := Aside0.mk hRT
  have HRE := Aside0.mk hRE
  have Hok := Aside0.mk (And.intro hok hoa)
  obtain ⟨A3, c3, rfl, hc3, hr3⟩ := hu
  have hmx := hr3.max
  obtain ⟨n, hn⟩ : ∃ n, T.length = n := ⟨_, rfl⟩
  obtain ⟨nE, hnE⟩ : ∃ n, E.length = n := ⟨_, rfl⟩
  obtain ⟨n3, hn3⟩ : ∃ n, tm.length = n := ⟨_, rfl⟩
  have Hn := Aside0.mk (And.intro hn (And.intro hnE hn3))
  have HLi := Aside0.mk (fun (W : World) (hb : Below w.heap.size w W) => light_any A A2 n c c2 E W (hRE.below hb))
  have HRr := Aside0.mk (fun (W : World) (hb : Below w.heap.size w W) (hl : T.length ≤ 1000000) => rright_any A A2 c E.length c2 T _ tm W (hRT.below hb) (HU.out.below hb) hl)
  rw [hn3] at HU hmx ⊢
  rw [hnE] at HLi ⊢
  rw [hn] at HRr ⊢
  rw [hnE, hn3] at HRr
  clear hT hP hRT hRE hok hoa hc3 hr3 hn hnE hn3
  obtain ⟨w0, hw0⟩ : ∃ w0, w.alloc (.cells #[.slice A n c, .slice A2 nE c2] 25) = w0 := ⟨_, rfl⟩
  have HB0 := Aside0.mk (show Below w.heap.size w w0 by rw [← hw0]; exact below_alloc (Below.refl _ _) _)
  have Hb0 := Aside0.mk (show w0.heap[w.heap.size]? = some (.cells #[.slice A n c, .slice A2 nE c2] 25 (0, 0)) by rw [← hw0]; exact heap_alloc_new _ _)
  go_enter Tryd.func4, Tryd.ntmps4
  go_wp2_with fail
  clear hw0
  obtain ⟨g, hg⟩ : ∃ g, w.heap.size = g := ⟨_, rfl⟩
  have Hg := Aside0.mk hg
  rw [hg] at Hb0
  simp only [hg]
  clear hg
  refine (HAw.out w0 HB0.out).mono ?_
  rintro e w1 ⟨rfl, r1⟩
  have HB1 := Aside0.mk (bel_trans HB0.out r1)
  have Hb1 := Aside0.mk (Ow.blk_below Hb0.out r1)
  have g0 : w1.cell? ⟨g, 0, none⟩ = some (.slice A n c) := blk_cellD Hb1.out 0 _ rfl
  have g1 : w1.cell? ⟨g, 1, none⟩ = some (.slice A2 nE c2) := blk_cellD Hb1.out 1 _ rfl
  clear r1
  go_wp2_with fail
  refine (HLi.out w1 HB1.out).mono ?_
  rintro e w2 ⟨rfl, r1⟩
  have HB2 := Aside0.mk (bel_trans HB1.out r1)
  have Hb2 := Aside0.mk (Ow.blk_below Hb1.out r1)
  clear g0 g1 r1
  by_cases hL : LightG n E
  case neg =>
    have d1 := decide_eq_false hL
    rw [d1]
    clear d1 hL
    go_wp2_with fail
    refine (HAw.out w2 HB2.out).mono ?_
    rintro e w3 ⟨rfl, r1⟩
    have HB3 := Aside0.mk (bel_trans HB2.out r1)
    clear r1
    go_wp2_with fail
    go_ret
    exact ⟨rfl, HB3.out⟩
  have d1 := decide_eq_true hL
  rw [d1]
  have HL := Aside0.mk hL
  clear d1 hL
  by_cases h3 : n3 ≤ 20
  case neg =>
    have d1 : decide ((n3 : Int) > 20) = true := decide_eq_true (by omega)
    have d2 : decide ((20 : Int) < (n3 : Int)) = true := decide_eq_true (by omega)
    have d3 : (20 : Int) < (n3 : Int) := by omega
    go_wp2_with fail
    refine (HAw.out w2 HB2.out).mono ?_
    rintro e w3 ⟨rfl, r1⟩
    have HB3 := Aside0.mk (bel_trans HB2.out r1)
    clear r1
    go_wp2_with fail
    go_ret
    exact ⟨rfl, HB3.out⟩
  have d1 : decide ((n3 : Int) > 20) = false := decide_eq_false (by omega)
  have d2 : decide ((20 : Int) < (n3 : Int)) = false := decide_eq_false (by omega)
  have d3 : ¬ (20 : Int) < (n3 : Int) := by omega
  have g0 : w2.cell? ⟨g, 0, none⟩ = some (.slice A n c) := blk_cellD Hb2.out 0 _ rfl
  have g1 : w2.cell? ⟨g, 1, none⟩ = some (.slice A2 nE c2) := blk_cellD Hb2.out 1 _ rfl
  have HN := Aside0.mk (And.intro h3 (show n ≤ 8 ∧ E.length ≤ 60 from ⟨HL.out.2.2, HL.out.1.2⟩))
  have hlT : T.length ≤ 1000 ∧ E.length ≤ 1000 := by have := HN.out; have := Hn.out.1; omega
  have hRg : RightG T.length E := by rw [Hn.out.1]; exact HL.out.2.1
  have HlT := Aside0.mk (And.intro hlT hRg)
  have hEE : E.length * E.length ≤ 1000000 := Nat.mul_le_mul hlT.2 hlT.2
  have HEE := Aside0.mk hEE
  clear h3 hlT hRg hEE
  have R1 := new_any A c T A2 c2 E w2 (HRT.out.below HB2.out) (HRE.out.below HB2.out) HlT.out.1.1 HlT.out.1.2 Hok.out.1 HlT.out.2
  rw [Hn.out.1, Hn.out.2.1] at R1
  have R1 := Aside0.mk R1
  go_wp2_with fail
  refine R1.out.mono ?_
  clear R1
  rintro e w3 ⟨p, lab, rfl, r1, r2⟩
  have HG := Aside0.mk (GA.mk ⟨lab, r1⟩)
  have HB3 := Aside0.mk (bel_trans HB2.out r2)
  have Hb3 := Aside0.mk (Ow.blk_below Hb2.out r2)
  clear r1 r2 g0 g1
  have ha : Below w3.heap.size w3 (w3.alloc (.cells #[] 3)) := below_alloc (Below.refl _ _) _
  have HA := Aside0.mk ha
  have HU1 := Aside0.mk (HU.out.below (bel_trans HB3.out ha))
  clear ha
  go_wp2_with (first | (at_builtin; refine appB (wb := w3) rfl (.tmp 38) (.tmp 39) rfl _ _ [] tm rfl rfl (R_empty w3) HU1.out HA.out (by have := HN.out; have := Hn.out.2.2; simp; omega) ?_; intro v7 w4 H7 B2 hg hat; clear hg hat))
  rw [List.nil_append] at H7
  have HV7 := Aside0.mk H7.toV
  have HB4 := Aside0.mk (bel_trans HB3.out B2)
  have Hb4 := Aside0.mk (Ow.blk_below Hb3.out B2)
  have HG4 := Aside0.mk (HG.out.below B2)
  clear H7 B2 HA HU1 HG
  have C1 := Aside0.mk (refine_any p T E v7 tm w4 HG4.out (HTP.out.1.below HB4.out) (HTP.out.2.below HB4.out) HV7.out HlT.out.2 Hok.out.1 Hok.out.2 HlT.out.1)
  have HRr' := Aside0.mk (fun (W : World) (hb : Below w.heap.size w W) => HRr.out W hb (by have := HN.out; omega))
  have HSt := Aside0.mk (fun (W : World) (hb : Below w4.heap.size w4 W) => stable_any p T E (.slice A3 n3 c3) tm W (HG4.out.below hb) (HTP.out.1.below (bel_trans HB4.out hb)) (HU.out.below (bel_trans HB4.out hb)) HlT.out.2 Hok.out.1 Hok.out.2 HlT.out.1)
  have HMk := Aside0.mk (fun (W : World) (hb : Below w4.heap.size w4 W) (q : Int) (hq : ok64 q) => marksN_any p T E q (.slice A3 n3 c3) tm W (HG4.out.below hb) (HTP.out.1.below (bel_trans HB4.out hb)) (HU.out.below (bel_trans HB4.out hb)) HlT.out.2 Hok.out.1 Hok.out.2 hq HlT.out.1)
  go_wp2_with fail
  refine C1.out.mono ?_
  clear C1
  by_cases hM : RightM T tm
  case neg =>
    rintro e w5 ⟨r1, ⟨r2, -⟩ | ⟨-, rfl⟩⟩
    case inl => exact absurd r2 hM
    have HB5 := Aside0.mk r1
    have Hb5 := Aside0.mk (Ow.blk_below Hb4.out r1)
    have C2 := Aside0.mk (same_any v7 _ tm tm w5 (HV7.out.below r1) (HU.out.below (bel_trans HB4.out r1)))
    rw [decide_eq_true (rfl : tm = tm)] at C2
    clear r1
    go_wp2_with fail
    refine C2.out.mono ?_
    rintro e w6 ⟨rfl, r1⟩
    have HB6 := Aside0.mk (bel_trans HB5.out r1)
    have Hb6 := Aside0.mk (Ow.blk_below Hb5.out r1)
    clear r1 C2
    have g0 : w6.cell? ⟨g, 0, none⟩ = some (.slice A n c) := blk_cellD Hb6.out 0 _ rfl
    have g1 : w6.cell? ⟨g, 1, none⟩ = some (.slice A2 nE c2) := blk_cellD Hb6.out 1 _ rfl
    have C3 := Aside0.mk (HRr'.out w6 (bel_trans HB4.out HB6.out))
    rw [decide_eq_false hM] at C3
    go_wp2_with fail
    refine C3.out.mono ?_
    rintro e w7 ⟨rfl, r1⟩
    have HB7 := Aside0.mk (bel_trans HB6.out r1)
    clear r1 C3 g0 g1
    have C4 := Aside0.mk (HSt.out w7 HB7.out)
    rw [decide_eq_false (fun h => hM h.1 : ¬ (RightM T tm ∧ Stab T.length E tm))] at C4
    go_wp2_with fail
    refine C4.out.mono ?_
    rintro e w8 ⟨rfl, r1⟩
    have HB8 := Aside0.mk (bel_trans HB7.out r1)
    clear r1 C4
    have C5 := Aside0.mk (HMk.out w8 HB8.out 0 (by decide))
    rw [show marksN T E tm 0 = [] from by unfold marksN; rw [if_neg (fun h => hM h.1)]] at C5
    clear hM
    go_wp2_with fail
    refine C5.out.mono ?_
    rintro e w9 ⟨v9, rfl, r0, r1⟩
    have HB9 := Aside0.mk (bel_trans HB4.out (bel_trans HB8.out r1))
    obtain ⟨A9, c9, rfl, -, -⟩ := r0
    have e0 : ([] : List (Int × Int)).length = 0 := rfl
    rw [e0]
    clear r1 C5 e0
    go_wp2_with fail
    go_ret
    exact ⟨rfl, HB9.out⟩
  rintro e w5 ⟨r1, ⟨-, v, out, rfl, r2, r3⟩ | ⟨r2, -⟩⟩
  case inr => exact absurd hM r2
  have HM := Aside0.mk hM
  have HI := Aside0.mk r3
  have HV := Aside0.mk r2
  have HB5 := Aside0.mk r1
  have Hb5 := Aside0.mk (Ow.blk_below Hb4.out r1)
  have C2 := Aside0.mk (same_any v7 _ tm tm w5 (HV7.out.below r1) (HU.out.below (bel_trans HB4.out r1)))
  rw [decide_eq_true (rfl : tm = tm)] at C2
  clear r1 r2 r3 hM
  go_wp2_with fail
  refine C2.out.mono ?_
  rintro e w6 ⟨rfl, r1⟩
  have HB6 := Aside0.mk (bel_trans HB5.out r1)
  have Hb6 := Aside0.mk (Ow.blk_below Hb5.out r1)
  have HV6 := Aside0.mk (HV.out.below r1)
  clear r1 C2 HV
  have g0 : w6.cell? ⟨g, 0, none⟩ = some (.slice A n c) := blk_cellD Hb6.out 0 _ rfl
  have g1 : w6.cell? ⟨g, 1, none⟩ = some (.slice A2 nE c2) := blk_cellD Hb6.out 1 _ rfl
  have C3 := Aside0.mk (HRr'.out w6 (bel_trans HB4.out HB6.out))
  rw [decide_eq_true HM.out] at C3
  go_wp2_with fail
  refine C3.out.mono ?_
  rintro e w7 ⟨rfl, r1⟩
  have HB7 := Aside0.mk (bel_trans HB6.out r1)
  have Hb7 := Aside0.mk (Ow.blk_below Hb6.out r1)
  have HV7' := Aside0.mk (HV6.out.below r1)
  clear r1 C3 g0 g1 HV6
  have g0 : w7.cell? ⟨g, 0, none⟩ = some (.slice A n c) := blk_cellD Hb7.out 0 _ rfl
  have g1 : w7.cell? ⟨g, 1, none⟩ = some (.slice A2 nE c2) := blk_cellD Hb7.out 1 _ rfl
  have hn3 : n3 = n := by have := HM.out.1; have := Hn.out; omega
  have Hn3 := Aside0.mk hn3
  have hRt : RightG tm.length E := by rw [HM.out.1]; exact HlT.out.2
  have hdt : Hd tm.length tm := by have := HM.out.hd; rw [← HM.out.1] at this; exact this
  have hlt : tm.length ≤ 1000 ∧ E.length ≤ 1000 := by rw [HM.out.1]; exact HlT.out.1
  have HRf := Aside0.mk (fun (W : World) (hb : Below w7.heap.size w7 W) => rrefine_any A A2 n c c2 E (.slice A3 n3 c3) tm W (HRE.out.below (bel_trans HB4.out (bel_trans HB7.out hb))) (HU.out.below (bel_trans HB4.out (bel_trans HB7.out hb))) hRt hlt)
  have HRs := Aside0.mk (fun (W : World) (hb : Below w7.heap.size w7 W) => rstable_any A A2 n c c2 E (.slice A3 n3 c3) tm W (HRE.out.below (bel_trans HB4.out (bel_trans HB7.out hb))) (HU.out.below (bel_trans HB4.out (bel_trans HB7.out hb))) hRt hdt hlt)
  have HRm := Aside0.mk (fun (W : World) (hb : Below w4.heap.size w4 W) (q : Int) => rmarks_any A A2 n c c2 E q (.slice A3 n3 c3) tm W (HRE.out.below (bel_trans HB4.out hb)) (HU.out.below (bel_trans HB4.out hb)) hRt hdt hlt)
  have HSs := Aside0.mk (fun (W : World) (hb : Below w7.heap.size w7 W) (v2 : Value) (hv : RdV W v2 out) => same_any v v2 out out W (HV7'.out.below hb) hv)
  rw [decide_eq_true (rfl : out = out)] at HSs
  have HS2 := Aside0.mk (fun (W : World) (hb : Below w7.heap.size w7 W) => HSt.out W (bel_trans HB7.out hb))
  obtain ⟨B, hB⟩ : ∃ B, decide (Stab T.length E tm) = B := ⟨_, rfl⟩
  have hB2 : decide (RightM T tm ∧ Stab T.length E tm) = B := by
    rw [← hB]
    by_cases h : Stab T.length E tm
    · rw [decide_eq_true h]; exact decide_eq_true ⟨HM.out, h⟩
    · rw [decide_eq_false h]; exact decide_eq_false (fun h2 => h h2.2)
  rw [hB2] at HS2
  rw [HM.out.1, hB] at HRs
  rw [Hn.out.2.1] at HRf HRs HRm
  have hbb : (B != B) = false := by simp
  clear hB hB2 hRt hdt hlt hn3
  have HBr := Below.refl w7.heap.size w7
  go_wp2_with fail
  go_region_held3 (fun W' => W'.cell? ⟨g, 0, none⟩ = some (.slice A n c) ∧ W'.cell? ⟨g, 1, none⟩ = some (.slice A2 nE c2) ∧ Below w7.heap.size w7 W') (first | (exact ⟨bel_cell HB9 g0, bel_cell HB9 g1, HB9⟩) | (refine ⟨pw_cell_below (w := w7) ?_ g0, pw_cell_below (w := w7) ?_ g1, ?_⟩ <;> simp [*]) | go_keep)
    (first
      | (go_at_call 16; (with_reducible refine (HRf.out _ (by simp [*])).mono ?_); rintro e w8 ⟨v8, o8, rfl, r0, r3, r1⟩; have e8 := IsRef.unique (by rw [HM.out.1] at r3; exact r3) HI.out; subst e8; have HV8 := Aside0.mk r0; have HB9 := bel_trans (wb := w7) (by simp [*]) r1; clear r0 r1 r3)
      | (go_at_call 11; (with_reducible refine (HSs.out _ (by simp [*]) _ HV8.out).mono ?_); rintro e w8 ⟨rfl, r1⟩; have HB9 := bel_trans (wb := w7) (by simp [*]) r1; clear r1)
      | (go_at_call 12; (with_reducible refine (HS2.out _ (by simp [*])).mono ?_); rintro e w8 ⟨rfl, r1⟩; have HB9 := bel_trans (wb := w7) (by simp [*]) r1; clear r1)
      | (go_at_call 17; (with_reducible refine (HRs.out _ (by simp [*])).mono ?_); rintro e w8 ⟨rfl, r1⟩; have HB9 := bel_trans (wb := w7) (by simp [*]) r1; clear r1)
      | fail)
  all_goals go_wp2_with fail
  all_goals
    have HB8 := Aside0.mk (bel_trans HB7.out HB9)
    have Hb8 := Aside0.mk (Ow.blk_below Hb7.out HB9)
    have hall : ∀ q : Int, 0 ≤ q ∧ q < (n : Int) → marksN T E tm q = marksG E tm q := fun q hq => by
      unfold marksN; rw [if_pos ⟨HM.out, hq.1, by have := Hn.out.2.2; have := Hn3.out; omega⟩]
    have hnil : ∀ q : Int, ¬ (0 ≤ q ∧ q < (n : Int)) → marksN T E tm q = [] := fun q hq => by
      unfold marksN; rw [if_neg (fun h => hq ⟨h.2.1, by have := h.2.2; have := Hn.out.2.2; have := Hn3.out; omega⟩)]
    have Hmk := Aside0.mk (And.intro hall hnil)
    have hn3 := Hn3.out
    clear HBr HB9 g0 g1 hbb hall hnil
    subst hn3
    go_loopw [12] (fun K wr => ∃ kk : Int, K = .int .i64 kk ∧ -1 ≤ kk ∧ kk ≤ (n3 : Int) + 2 ∧ Aside0 (Below w4.heap.size w4 wr)) (fun K _ => ((n3 : Int) + 2 - intOf K).toNat)
    case atStart => exact ⟨-1, rfl, by omega, by omega, HB8⟩
    case round =>
      obtain ⟨kk, rfl, k1, k2, HB⟩ := hrel
      have Hbr := Aside0.mk (Ow.blk_below Hb4.out HB.out)
      have hn20 : (n3 : Int) ≤ 20 := by have := HN.out; omega
      by_cases hke : kk ≤ (n3 : Int) + 1
      · have d1 : decide (kk ≤ (n3 : Int) + 1) = true := decide_eq_true hke
        have Hkk := Aside0.mk (And.intro k1 hke)
        have hok : ok64 kk := ok64_of (by omega) (by omega)
        have Hok' := Aside0.mk hok
        clear hok
        obtain ⟨hall, hnil⟩ := Hmk.out
        have Hal := Aside0.mk hall
        have Hni := Aside0.mk hnil
        clear hall hnil
        by_cases hkn : kk > (n3 : Int)
        · have d2 : decide (kk > (n3 : Int)) = true := decide_eq_true hkn
          have d3 : (n3 : Int) < kk := hkn
          go_wp2_with fail
          clear d1 d2 d3 hkn hke k1 k2
          refine (HMk.out wr HB.out o Ho.out).mono ?_
          rintro e w5 ⟨v, rfl, r1, r2⟩
          have HV5 := Aside0.mk r1
          have HB5 := Aside0.mk (bel_trans HB.out r2)
          have Hb5 := Aside0.mk (Ow.blk_below Hbr.out r2)
          clear r1 r2
          by_cases hin : 0 ≤ o ∧ o < (n3 : Int)
          · have t1 : decide (o ≥ 0) = true := decide_eq_true hin.1
            have t2 : decide (o < (n3 : Int)) = true := decide_eq_true hin.2
            have hmg : marksN T E tm o = marksG E tm o := Hal.out o hin
            have C1 := Aside0.mk (HRm.out w5 HB5.out o)
            rw [hmg] at HV5
            have g0 : w5.cell? ⟨g, 0, none⟩ = some (.slice A n3 c) := blk_cellD Hb5.out 0 _ rfl
            have g1 : w5.cell? ⟨g, 1, none⟩ = some (.slice A2 nE c2) := blk_cellD Hb5.out 1 _ rfl
            have HMl := Aside0.mk (Nat.le_trans (marksG_len E tm o) HEE.out)
            obtain ⟨ml, hml⟩ : ∃ l, marksG E tm o = l := ⟨_, rfl⟩
            rw [hml] at HV5 C1 HMl
            have hin1 := eq_true hin.1
            clear hin hmg hml
            obtain ⟨A9, c9, rfl, -, -⟩ := id HV5.out
            go_wp2_with fail
            refine C1.out.mono ?_
            rintro e w6 ⟨v2, rfl, r1, r2⟩
            have HV := Aside0.mk (HV5.out.below r2)
            have HV2 := Aside0.mk r1
            have HBc := Aside0.mk (bel_trans HB5.out r2)
            clear r1 r2 HV5 C1 g0 g1
            obtain ⟨A7, c7, e7, -, hr7⟩ := HV.out
            cases e7
            obtain ⟨A8, c8, rfl, -, hr8⟩ := HV2.out
            have HR78 := Aside0.mk (And.intro hr7 hr8)
            obtain ⟨m, hm⟩ : ∃ m, ml.length = m := ⟨_, rfl⟩
            have Hm := Aside0.mk (And.intro hm HMl.out)
            rw [hm]
            clear hr7 hr8 hm HV HV2
            have x1 : ((m : Int) != (m : Int)) = false := by simp
            obtain ⟨wc, rfl⟩ : ∃ x, x = w6 := ⟨_, rfl⟩
            go_wp2_with fail
            go_loopw [16] (fun I wx => ∃ j : Nat, I = .int .i64 (j : Int) ∧ j ≤ m ∧ Aside0 (Below wc.heap.size wc wx)) (fun I _ => m - (intOf I).toNat)
            case atStart => exact ⟨0, rfl, Nat.zero_le _, ⟨Below.refl _ _⟩⟩
            case round =>
              obtain ⟨j, rfl, hj, HBj⟩ := hrel
              by_cases hjn : j < m
              · have hnb : decide ((j : Int) < (m : Int)) = true := decide_eq_true (by omega)
                have hnc : decide (j < m) = true := decide_eq_true hjn
                have hia : j < ml.length := by rw [Hm.out.1]; exact hjn
                obtain ⟨ad, rfl, e1, e1'⟩ := C_atP (Kd.C_below HR78.out.1 HBj.out) j hia
                obtain ⟨ad2, rfl, e2, e2'⟩ := C_atP (Kd.C_below HR78.out.2 HBj.out) j hia
                obtain ⟨⟨x, y⟩, hxx⟩ : ∃ x, ml.getD j (0, 0) = x := ⟨_, rfl⟩
                rw [hxx] at e1 e1' e2 e2'
                have j0 : 0 ≤ (j : Int) := by omega
                have j1 : (j : Int) < (m : Int) := by omega
                have j2 : (j : Int) ≤ 1000000 := by have := Hm.out; omega
                have Hj := Aside0.mk hjn
                have HBw := Aside0.mk (below_drew HBj.out)
                clear hjn hj hia hxx
                replace j0 := eq_true j0
                replace j1 := eq_true j1
                have hq := fun W => (eq42 x y x y W).trans (by simp : _ = Result.ok true W)
                have hg := eqg42
                go_wp2_with fail
                go_region
                go_wp2_with fail
                go_roundw
                case rel => exact ⟨j + 1, by go_num, Hj.out, HBw⟩
                case measure => have := Hj.out; simp [intOf]; omega
              · have hnb : decide ((j : Int) < (m : Int)) = false := decide_eq_false (by omega)
                have hnc : decide (j < m) = false := decide_eq_false hjn
                obtain rfl : j = m := by omega
                have HBz := Aside0.mk (bel_trans HBc.out HBj.out)
                clear hjn hj
                have z1 := Hkk.out.1
                have z2 := Hkk.out.2
                go_wp2_with fail
                go_roundw
                case rel => exact ⟨kk + 1, rfl, by omega, by omega, HBz⟩
                case measure => have := Hkk.out; simp [intOf]; omega
          · have hmg : marksN T E tm o = [] := Hni.out o hin
            rw [hmg] at HV5
            have hor : o < 0 ∨ (0 ≤ o ∧ (n3 : Int) ≤ o) := by omega
            have HBc := HB5
            have HV := HV5
            have HV2 := Aside0.mk (OwP.nil w5 (fun _ => True)).toV
            have HMl := Aside0.mk (show ([] : List (Int × Int)).length ≤ 1000000 by decide)
            obtain ⟨ml, hml⟩ : ∃ l, ([] : List (Int × Int)) = l := ⟨_, rfl⟩
            clear hin hmg HB5 HV5
            rcases hor with hq1 | ⟨hq1, hq2⟩
            · have t1 : decide (o ≥ 0) = false := decide_eq_false (by omega)
              have t3 : ¬ 0 ≤ o := by omega
              obtain ⟨A9, c9, rfl, -, hr9⟩ := HV.out
              obtain ⟨wc, rfl⟩ : ∃ x, x = w5 := ⟨_, rfl⟩
              clear hml
              clear ml
              have e0 : ([] : List (Int × Int)).length = 0 := rfl
              rw [e0]
              go_wp2_with fail
              go_loopw [16] (fun I wx => I = .int .i64 0 ∧ Aside0 (Below wc.heap.size wc wx)) (fun I _ => 0)
              case atStart => exact ⟨rfl, ⟨Below.refl _ _⟩⟩
              case round =>
                obtain ⟨rfl, HBj⟩ := hrel
                have HBz := Aside0.mk (bel_trans HBc.out HBj.out)
                have z1 := Hkk.out.1
                have z2 := Hkk.out.2
                go_wp2_with fail
                go_roundw
                case rel => exact ⟨kk + 1, rfl, by omega, by omega, HBz⟩
                case measure => have := Hkk.out; simp [intOf]; omega
            · have t1 : decide (o ≥ 0) = true := decide_eq_true hq1
              have t2 : decide (o < (n3 : Int)) = false := decide_eq_false (by omega)
              have t3 : ¬ o < (n3 : Int) := by omega
              obtain ⟨A9, c9, rfl, -, hr9⟩ := HV.out
              obtain ⟨wc, rfl⟩ : ∃ x, x = w5 := ⟨_, rfl⟩
              clear hml
              clear ml
              have e0 : ([] : List (Int × Int)).length = 0 := rfl
              rw [e0]
              go_wp2_with fail
              go_loopw [16] (fun I wx => I = .int .i64 0 ∧ Aside0 (Below wc.heap.size wc wx)) (fun I _ => 0)
              case atStart => exact ⟨rfl, ⟨Below.refl _ _⟩⟩
              case round =>
                obtain ⟨rfl, HBj⟩ := hrel
                have HBz := Aside0.mk (bel_trans HBc.out HBj.out)
                have z1 := Hkk.out.1
                have z2 := Hkk.out.2
                go_wp2_with fail
                go_roundw
                case rel => exact ⟨kk + 1, rfl, by omega, by omega, HBz⟩
                case measure => have := Hkk.out; simp [intOf]; omega
        · have d2 : decide (kk > (n3 : Int)) = false := decide_eq_false hkn
          have d3 : ¬ (n3 : Int) < kk := hkn
          go_wp2_with fail
          clear d1 d2 d3 hkn hke k1 k2
          refine (HMk.out wr HB.out kk Hok'.out).mono ?_
          rintro e w5 ⟨v, rfl, r1, r2⟩
          have HV5 := Aside0.mk r1
          have HB5 := Aside0.mk (bel_trans HB.out r2)
          have Hb5 := Aside0.mk (Ow.blk_below Hbr.out r2)
          clear r1 r2
          by_cases hin : 0 ≤ kk ∧ kk < (n3 : Int)
          · have t1 : decide (kk ≥ 0) = true := decide_eq_true hin.1
            have t2 : decide (kk < (n3 : Int)) = true := decide_eq_true hin.2
            have hmg : marksN T E tm kk = marksG E tm kk := Hal.out kk hin
            have C1 := Aside0.mk (HRm.out w5 HB5.out kk)
            rw [hmg] at HV5
            have g0 : w5.cell? ⟨g, 0, none⟩ = some (.slice A n3 c) := blk_cellD Hb5.out 0 _ rfl
            have g1 : w5.cell? ⟨g, 1, none⟩ = some (.slice A2 nE c2) := blk_cellD Hb5.out 1 _ rfl
            have HMl := Aside0.mk (Nat.le_trans (marksG_len E tm kk) HEE.out)
            obtain ⟨ml, hml⟩ : ∃ l, marksG E tm kk = l := ⟨_, rfl⟩
            rw [hml] at HV5 C1 HMl
            have hin1 := eq_true hin.1
            clear hin hmg hml
            obtain ⟨A9, c9, rfl, -, -⟩ := id HV5.out
            go_wp2_with fail
            refine C1.out.mono ?_
            rintro e w6 ⟨v2, rfl, r1, r2⟩
            have HV := Aside0.mk (HV5.out.below r2)
            have HV2 := Aside0.mk r1
            have HBc := Aside0.mk (bel_trans HB5.out r2)
            clear r1 r2 HV5 C1 g0 g1
            obtain ⟨A7, c7, e7, -, hr7⟩ := HV.out
            cases e7
            obtain ⟨A8, c8, rfl, -, hr8⟩ := HV2.out
            have HR78 := Aside0.mk (And.intro hr7 hr8)
            obtain ⟨m, hm⟩ : ∃ m, ml.length = m := ⟨_, rfl⟩
            have Hm := Aside0.mk (And.intro hm HMl.out)
            rw [hm]
            clear hr7 hr8 hm HV HV2
            have x1 : ((m : Int) != (m : Int)) = false := by simp
            obtain ⟨wc, rfl⟩ : ∃ x, x = w6 := ⟨_, rfl⟩
            go_wp2_with fail
            go_loopw [16] (fun I wx => ∃ j : Nat, I = .int .i64 (j : Int) ∧ j ≤ m ∧ Aside0 (Below wc.heap.size wc wx)) (fun I _ => m - (intOf I).toNat)
            case atStart => exact ⟨0, rfl, Nat.zero_le _, ⟨Below.refl _ _⟩⟩
            case round =>
              obtain ⟨j, rfl, hj, HBj⟩ := hrel
              by_cases hjn : j < m
              · have hnb : decide ((j : Int) < (m : Int)) = true := decide_eq_true (by omega)
                have hnc : decide (j < m) = true := decide_eq_true hjn
                have hia : j < ml.length := by rw [Hm.out.1]; exact hjn
                obtain ⟨ad, rfl, e1, e1'⟩ := C_atP (Kd.C_below HR78.out.1 HBj.out) j hia
                obtain ⟨ad2, rfl, e2, e2'⟩ := C_atP (Kd.C_below HR78.out.2 HBj.out) j hia
                obtain ⟨⟨x, y⟩, hxx⟩ : ∃ x, ml.getD j (0, 0) = x := ⟨_, rfl⟩
                rw [hxx] at e1 e1' e2 e2'
                have j0 : 0 ≤ (j : Int) := by omega
                have j1 : (j : Int) < (m : Int) := by omega
                have j2 : (j : Int) ≤ 1000000 := by have := Hm.out; omega
                have Hj := Aside0.mk hjn
                have HBw := Aside0.mk (below_drew HBj.out)
                clear hjn hj hia hxx
                replace j0 := eq_true j0
                replace j1 := eq_true j1
                have hq := fun W => (eq42 x y x y W).trans (by simp : _ = Result.ok true W)
                have hg := eqg42
                go_wp2_with fail
                go_region
                go_wp2_with fail
                go_roundw
                case rel => exact ⟨j + 1, by go_num, Hj.out, HBw⟩
                case measure => have := Hj.out; simp [intOf]; omega
              · have hnb : decide ((j : Int) < (m : Int)) = false := decide_eq_false (by omega)
                have hnc : decide (j < m) = false := decide_eq_false hjn
                obtain rfl : j = m := by omega
                have HBz := Aside0.mk (bel_trans HBc.out HBj.out)
                clear hjn hj
                have z1 := Hkk.out.1
                have z2 := Hkk.out.2
                go_wp2_with fail
                go_roundw
                case rel => exact ⟨kk + 1, rfl, by omega, by omega, HBz⟩
                case measure => have := Hkk.out; simp [intOf]; omega
          · have hmg : marksN T E tm kk = [] := Hni.out kk hin
            rw [hmg] at HV5
            have hor : kk < 0 ∨ (0 ≤ kk ∧ (n3 : Int) ≤ kk) := by omega
            have HBc := HB5
            have HV := HV5
            have HV2 := Aside0.mk (OwP.nil w5 (fun _ => True)).toV
            have HMl := Aside0.mk (show ([] : List (Int × Int)).length ≤ 1000000 by decide)
            obtain ⟨ml, hml⟩ : ∃ l, ([] : List (Int × Int)) = l := ⟨_, rfl⟩
            clear hin hmg HB5 HV5
            rcases hor with hq1 | ⟨hq1, hq2⟩
            · have t1 : decide (kk ≥ 0) = false := decide_eq_false (by omega)
              have t3 : ¬ 0 ≤ kk := by omega
              obtain ⟨A9, c9, rfl, -, hr9⟩ := HV.out
              obtain ⟨wc, rfl⟩ : ∃ x, x = w5 := ⟨_, rfl⟩
              clear hml
              clear ml
              have e0 : ([] : List (Int × Int)).length = 0 := rfl
              rw [e0]
              go_wp2_with fail
              go_loopw [16] (fun I wx => I = .int .i64 0 ∧ Aside0 (Below wc.heap.size wc wx)) (fun I _ => 0)
              case atStart => exact ⟨rfl, ⟨Below.refl _ _⟩⟩
              case round =>
                obtain ⟨rfl, HBj⟩ := hrel
                have HBz := Aside0.mk (bel_trans HBc.out HBj.out)
                have z1 := Hkk.out.1
                have z2 := Hkk.out.2
                go_wp2_with fail
                go_roundw
                case rel => exact ⟨kk + 1, rfl, by omega, by omega, HBz⟩
                case measure => have := Hkk.out; simp [intOf]; omega
            · have t1 : decide (kk ≥ 0) = true := decide_eq_true hq1
              have t2 : decide (kk < (n3 : Int)) = false := decide_eq_false (by omega)
              have t3 : ¬ kk < (n3 : Int) := by omega
              obtain ⟨A9, c9, rfl, -, hr9⟩ := HV.out
              obtain ⟨wc, rfl⟩ : ∃ x, x = w5 := ⟨_, rfl⟩
              clear hml
              clear ml
              have e0 : ([] : List (Int × Int)).length = 0 := rfl
              rw [e0]
              go_wp2_with fail
              go_loopw [16] (fun I wx => I = .int .i64 0 ∧ Aside0 (Below wc.heap.size wc wx)) (fun I _ => 0)
              case atStart => exact ⟨rfl, ⟨Below.refl _ _⟩⟩
              case round =>
                obtain ⟨rfl, HBj⟩ := hrel
                have HBz := Aside0.mk (bel_trans HBc.out HBj.out)
                have z1 := Hkk.out.1
                have z2 := Hkk.out.2
                go_wp2_with fail
                go_roundw
                case rel => exact ⟨kk + 1, rfl, by omega, by omega, HBz⟩
                case measure => have := Hkk.out; simp [intOf]; omega
      · have d1 : decide (kk ≤ (n3 : Int) + 1) = false := decide_eq_false hke
        have HBz := Aside0.mk (bel_trans HB4.out HB.out)
        go_wp2_with fail
        go_ret
        exact ⟨rfl, HBz.out⟩
end Go.Proofs.YtkpadjhdneiniaaDoor.Sb
