/- AutoStates: its walk. -/
import Derived.Test.YtkpadjhdneiniaaGreatDoorBg
namespace Go.Proofs.YtkpadjhdneiniaaGreatDoor.Am
set_option linter.unusedVariables false
open Go.RowKit Go.Proofs.YtkpadjhdneiniaaGreatDoorW.PrintWords Go.Proofs.YtkpadjhdneiniaaGreatDoorW.PrintLast Go.Proofs.YtkpadjhdneiniaaGreatDoorW.PrintMore Go.Maps
open Go.Proofs.YtkpadjhdneiniaaGreatDoor.Base Go.Proofs.YtkpadjhdneiniaaGreatDoor.Map Go.Proofs.YtkpadjhdneiniaaGreatDoor.Sl Go.Proofs.YtkpadjhdneiniaaGreatDoor.Ow Go.Proofs.YtkpadjhdneiniaaGreatDoor.Se Go.Proofs.YtkpadjhdneiniaaGreatDoor.Gr Go.Proofs.YtkpadjhdneiniaaGreatDoor.Rf Go.Proofs.YtkpadjhdneiniaaGreatDoor.Tx Go.Proofs.YtkpadjhdneiniaaGreatDoor.Au



/-- what leads nowhere -/
theorem step_out {E : List GE} {S : List (List Int)} {j : Int} (h : ¬ (0 ≤ j ∧ j < S.length)) (f : Int) : (stepG E S j f).getD (-1) = -1 := by
  unfold stepG
  rw [if_neg (fun h2 => h ⟨h2.1, h2.2.1⟩)]; rfl
theorem fldG_out {E : List GE} {S : List (List Int)} {j : Int} (h : ¬ (0 ≤ j ∧ j < S.length)) : fldG E S j = [] := by
  unfold fldG; rw [if_neg h]
/-- both tell the same steps -/
theorem step_same {n : Nat} {E : List GE} {o : Int} {S : List (List Int)} (hR : RightG n E) (h0 : 0 ≤ o) (h1 : o < n) (hS : statesG E n o = S) {i : Nat} (hi : i < S.length) (f : Int) : (stepG E S (i : Int) f).getD (-1) = rstepG E S (i : Int) f := by
  have hI : StI n E o S := by rw [← hS]; exact states_inv hR h0 h1
  unfold rstepG
  rw [if_pos ⟨by omega, by omega⟩, Int.toNat_natCast]
  by_cases hf : f ∈ fieldsG E (S.getD i [])
  · rw [(step_at hR h0 h1 hS hi hf).1, if_neg (next_ne (hI.sm _ (getD_mem hi)).2 hf)]
    have := states_next hR h0 h1 (s := S.getD i []) (by rw [hS]; exact getD_mem hi) hf
    rw [hS] at this
    unfold findG; rw [if_pos this]
  · rw [if_pos (Au.next_none hf)]
    unfold stepG
    rw [Int.toNat_natCast, if_neg (fun h => hf h.2.2)]; rfl
theorem single_bool (T : List ByteArray) (S : List (List Int)) : ∃ B : Bool, B = true ↔ SingleG T S := by
  by_cases h : SingleG T S
  · exact ⟨true, by simp [h]⟩
  · exact ⟨false, by simp [h]⟩
set_option maxHeartbeats 16000000 in
set_option maxRecDepth 100000 in
theorem states_law (A : Option Addr) (c : Nat) (T : List ByteArray) (A2 : Option Addr) (c2 : Nat) (E : List GE) (o most : Int) (w : World) (hTZ : TZ w) (hP : P10 w) (hT : RdT w A T) (hE : RdE w A2 E) (hokE : ∀ a f z, (a, f, z) ∈ E → ok64 f) (hokm : ok64 most) :
    Calls Tryz.prog 5 #[.agg #[.slice A T.length c, .slice A2 E.length c2], .int .i64 o, .int .i64 most] w fun e w' => e = .returned (.bool true) ∧ Below w.heap.size w w' := by
  obtain ⟨W, hW⟩ : ∃ W, w.alloc (.cells #[.slice A T.length c, .slice A2 E.length c2] 25) = W := ⟨_, rfl⟩
  have HBW := Aside0.mk (show Below w.heap.size w W by rw [← hW]; exact below_alloc (Below.refl _ _) _)
  have Hb := Aside0.mk (show W.heap[w.heap.size]? = some (.cells #[.slice A T.length c, .slice A2 E.length c2] 25 (0, 0)) by rw [← hW]; exact heap_alloc_new _ _)
  obtain ⟨g, hg⟩ : ∃ g, w.heap.size = g := ⟨_, rfl⟩
  rw [hg] at Hb
  have HAw := Aside0.mk (fun (W' : World) (hb : Below W.heap.size W W') => awake_any W' (hTZ.below (bel_trans HBW.out hb)) (hP.below (bel_trans HBW.out hb)))
  have HLi := Aside0.mk (fun (W' : World) (hb : Below W.heap.size W W') => light_any A A2 T.length c c2 E W' (hE.below (bel_trans HBW.out hb)))
  have H := Aside0.mk (And.intro (hTZ.below HBW.out) (And.intro (hP.below HBW.out) (And.intro (hT.below HBW.out) (And.intro (hE.below HBW.out) (And.intro hokE hokm)))))
  obtain ⟨nT, hnT⟩ : ∃ nT, T.length = nT := ⟨_, rfl⟩
  obtain ⟨nE, hnE⟩ : ∃ nE, E.length = nE := ⟨_, rfl⟩
  have Hn := Aside0.mk (And.intro hnT hnE)
  rw [hnT, hnE] at hW Hb HLi
  rw [hnT, hnE]
  clear hTZ hP hT hE hokE hokm hnT hnE
  go_enter Tryz.func5, Tryz.ntmps5
  go_wp2_with fail
  clear hW
  refine (HAw.out W (Below.refl _ _)).mono ?_
  rintro e w1 ⟨rfl, r1⟩
  have HB1 := Aside0.mk r1
  clear r1
  have g0 : w1.cell? ⟨g, 0, none⟩ = some (.slice A nT c) := blk_cellD (Ow.blk_below Hb.out HB1.out) 0 _ rfl
  have g1 : w1.cell? ⟨g, 1, none⟩ = some (.slice A2 nE c2) := blk_cellD (Ow.blk_below Hb.out HB1.out) 1 _ rfl
  go_wp2_with fail
  refine (HLi.out w1 HB1.out).mono ?_
  rintro e w2 ⟨rfl, r1⟩
  have HB2 := Aside0.mk (bel_trans HB1.out r1)
  clear r1 g0 g1
  by_cases hli : LightG nT E
  case neg =>
    have d := decide_eq_false hli
    rw [d]
    clear d hli
    go_wp2_with fail
    refine (HAw.out _ HB2.out).mono ?_
    rintro e wz ⟨rfl, rz⟩
    have HBz := Aside0.mk (bel_trans HBW.out (bel_trans HB2.out rz))
    clear rz
    go_wp2_with fail
    go_ret
    exact ⟨rfl, by have h := HBz.out; first | exact h | (rw [hg] at h; exact h)⟩
  have d := decide_eq_true hli
  rw [d]
  have HL := Aside0.mk hli
  clear d hli
  have g0 : w2.cell? ⟨g, 0, none⟩ = some (.slice A nT c) := blk_cellD (Ow.blk_below Hb.out HB2.out) 0 _ rfl
  have g1 : w2.cell? ⟨g, 1, none⟩ = some (.slice A2 nE c2) := blk_cellD (Ow.blk_below Hb.out HB2.out) 1 _ rfl
  have HNw := Aside0.mk (new_any A c T A2 c2 E w2 (H.out.2.2.1.below HB2.out) (H.out.2.2.2.1.below HB2.out) (by have h := HL.out.2.2; have h2 := Hn.out.1; omega) (by have h := HL.out.1.2; have h2 := Hn.out.2; omega) H.out.2.2.2.2.1 (by rw [Hn.out.1]; exact HL.out.2.1))
  rw [Hn.out.1, Hn.out.2] at HNw
  go_wp2_with fail
  refine HNw.out.mono ?_
  rintro e w3 ⟨pg, lab, rfl, r1, r2⟩
  have HG3 := Aside0.mk (GA.mk ⟨lab, r1⟩)
  have HB3 := Aside0.mk (bel_trans HB2.out r2)
  clear r1 r2 HNw g0 g1
  have g0 : w3.cell? ⟨g, 0, none⟩ = some (.slice A nT c) := blk_cellD (Ow.blk_below Hb.out HB3.out) 0 _ rfl
  have g1 : w3.cell? ⟨g, 1, none⟩ = some (.slice A2 nE c2) := blk_cellD (Ow.blk_below Hb.out HB3.out) 1 _ rfl
  by_cases ho : 0 ≤ o ∧ o < nT
  case neg =>
    have HBo := Aside0.mk (build_out pg T E o most w3 HG3.out (by rw [Hn.out.1]; exact ho))
    have HB9 := Aside0.mk (bel_trans HBW.out HB3.out)
    by_cases h0 : o < 0
    · have e1 : decide (o < 0) = true := decide_eq_true h0
      clear ho
      go_wp2_with fail
      refine HBo.out.mono ?_
      rintro e w4 ⟨rfl, rfl⟩
      go_wp2_with fail
      go_ret
      exact ⟨rfl, by have h := HB9.out; first | exact h | (rewrite [hg] at h; exact h)⟩
    · have h1 : (nT : Int) ≤ o := by omega
      have e1 : decide (o < 0) = false := decide_eq_false h0
      have e2 : decide ((nT : Int) ≤ o) = true := decide_eq_true h1
      clear ho
      go_wp2_with fail
      refine HBo.out.mono ?_
      rintro e w4 ⟨rfl, rfl⟩
      go_wp2_with fail
      go_ret
      exact ⟨rfl, by have h := HB9.out; first | exact h | (rewrite [hg] at h; exact h)⟩
  obtain ⟨h0, h1⟩ := ho
  have e1 : decide (o < 0) = false := decide_eq_false (by omega)
  have e2 : ¬ o < 0 := by omega
  have e3 : decide ((nT : Int) ≤ o) = false := decide_eq_false (by omega)
  have e4 : ¬ (nT : Int) ≤ o := by omega
  have Ho := Aside0.mk (And.intro h0 h1)
  have HBd := Aside0.mk (build_any pg T E o most w3 HG3.out (H.out.1.below HB3.out) (H.out.2.1.below HB3.out) (by rw [Hn.out.1]; exact HL.out.2.1) (by rw [Hn.out.1]; exact HL.out.2.2) HL.out.1.2 H.out.2.2.2.2.1 Ho.out.1 (by rw [Hn.out.1]; exact Ho.out.2) H.out.2.2.2.2.2)
  have HRs := Aside0.mk (fun (W' : World) (hb : Below W.heap.size W W') => rstates_any A A2 nT c c2 E o W' (H.out.2.2.2.1.below hb) HL.out.1.2 HL.out.2.2 HL.out.2.1 Ho.out.1 Ho.out.2)
  rw [Hn.out.2] at HRs
  rw [Hn.out.1] at HBd
  obtain ⟨S, hS⟩ : ∃ S, statesG E nT o = S := ⟨_, rfl⟩
  rw [hS] at HBd HRs
  have hSI : StI nT E o S := by rw [← hS]; exact states_inv HL.out.2.1 Ho.out.1 Ho.out.2
  have hSl : S.length ≤ 256 := Nat.le_trans hSI.len (Nat.pow_le_pow_right (by decide) HL.out.2.2)
  have HS := Aside0.mk (And.intro hS (And.intro hSI hSl))
  clear hS hSI hSl h0 h1
  go_wp2_with fail
  refine HBd.out.mono ?_
  rintro e w4 ⟨r1, r2⟩
  have HB4 := Aside0.mk (bel_trans HB3.out r1)
  have HG4 := Aside0.mk (HG3.out.below r1)
  clear r1 HBd g0 g1
  have g0 : w4.cell? ⟨g, 0, none⟩ = some (.slice A nT c) := blk_cellD (Ow.blk_below Hb.out HB4.out) 0 _ rfl
  have g1 : w4.cell? ⟨g, 1, none⟩ = some (.slice A2 nE c2) := blk_cellD (Ow.blk_below Hb.out HB4.out) 1 _ rfl
  rcases r2 with ⟨hle, pa, F, rfl, r2⟩ | ⟨hgt, rfl⟩
  case inr =>
    have d1 : decide (most < (S.length : Int)) = true := decide_eq_true (by omega)
    have d2 : most < (S.length : Int) := by omega
    go_wp2_with fail
    refine (HRs.out _ HB4.out).mono ?_
    rintro e w5 ⟨v5, rfl, r1, r2⟩
    obtain ⟨A5, c5, rfl⟩ := r1.len
    have HB9 := Aside0.mk (bel_trans HBW.out (bel_trans HB4.out r2))
    clear r1 r2
    go_wp2_with fail
    go_ret
    exact ⟨rfl, by have h := HB9.out; first | exact h | (rewrite [hg] at h; exact h)⟩
  have d1 : decide (most < (S.length : Int)) = false := decide_eq_false (by omega)
  have d2 : ¬ most < (S.length : Int) := by omega
  have HA4 := Aside0.mk r2
  clear r2 hle
  go_wp2_with fail
  refine (HRs.out _ HB4.out).mono ?_
  rintro e w5 ⟨v5, rfl, r1, r2⟩
  have HV5 := Aside0.mk r1
  obtain ⟨A5, c5, rfl⟩ := r1.len
  have HA5 := Aside0.mk (HA4.out.below r2)
  have HG5 := Aside0.mk (HG4.out.below r2)
  have HB5 := Aside0.mk (bel_trans HB4.out r2)
  have HLn := Aside0.mk (fun (W' : World) (hb : Below w5.heap.size w5 W') => alen_any pa pg _ F S _ W' (HA5.out.below hb))
  have hTl : T.length ≤ 1000 := by have h := HL.out.2.2; have h2 := Hn.out.1; omega
  have hsl : ∀ s ∈ S, s.length ≤ 1000 := fun s hs => by have h := (sm_ok HL.out.2.2 (HS.out.2.1.sm s hs).1).1; omega
  have HTl := Aside0.mk (And.intro hTl hsl)
  clear hTl hsl r1 r2 g0 g1
  have g0 : w5.cell? ⟨g, 0, none⟩ = some (.slice A nT c) := blk_cellD (Ow.blk_below Hb.out HB5.out) 0 _ rfl
  have g1 : w5.cell? ⟨g, 1, none⟩ = some (.slice A2 nE c2) := blk_cellD (Ow.blk_below Hb.out HB5.out) 1 _ rfl
  obtain ⟨B, hB⟩ := single_bool T S
  have HS1 := Aside0.mk (fun (W' : World) (hb : Below w5.heap.size w5 W') => asingle_any pa pg _ F S _ T E W' (HA5.out.below hb) (HG5.out.below hb) HTl.out.2 HTl.out.1 (by have := HS.out.2.2; omega) B hB)
  have HS2 := Aside0.mk (fun (W' : World) (hb : Below w5.heap.size w5 W') => rsingle_any A A2 c nE c2 T (.slice A5 S.length c5) S W' (H.out.2.2.1.below (bel_trans HB5.out hb)) (HV5.out.below hb) HTl.out.1 HTl.out.2 (by have := HS.out.2.2; omega) B hB)
  rw [Hn.out.1] at HS2
  clear hB
  have HBr := Below.refl w5.heap.size w5
  go_wp2_with fail
  go_region_held3 (fun W' => W'.cell? ⟨g, 0, none⟩ = some (.slice A nT c) ∧ W'.cell? ⟨g, 1, none⟩ = some (.slice A2 nE c2) ∧ Below w5.heap.size w5 W') (first | (exact ⟨bel_cell HB9 g0, bel_cell HB9 g1, HB9⟩) | (refine ⟨pw_cell_below (w := w5) ?_ g0, pw_cell_below (w := w5) ?_ g1, ?_⟩ <;> simp [*]) | go_keep)
    (first
      | (go_at_call 26; (with_reducible refine (HLn.out _ (by simp [*])).mono ?_); rintro e w6 ⟨rfl, rfl⟩)
      | (go_at_call 30; (with_reducible refine (HS1.out _ (by simp [*])).mono ?_); rintro e w6 ⟨rfl, r3⟩; have HB9 := bel_trans (wb := w5) (by simp [*]) r3; clear r3)
      | (go_at_call 31; (with_reducible refine (HS2.out _ (by simp [*])).mono ?_); rintro e w6 ⟨rfl, r3⟩; have HB9 := bel_trans (wb := w5) (by simp [*]) r3; clear r3)
      | fail)
  have HB7 := Aside0.mk (bel_trans HB5.out HB9)
  have HA7 := Aside0.mk (HA5.out.below HB9)
  have HG7 := Aside0.mk (HG5.out.below HB9)
  have HV7 := Aside0.mk (HV5.out.below HB9)
  rename_i hHeld
  clear HS1 HS2 HLn HBr HB9 g0 g1 hHeld HA4 HG4 HA5 HG5 HV5
  have i3' : (S.length : Int) ≤ 256 := by have := HS.out.2.2; omega
  go_wp2_with fail
  go_loopw [12] (fun I wr => ∃ j : Int, I = .int .i64 j ∧ -1 ≤ j ∧ j ≤ S.length + 1 ∧ Aside0 (Below w6.heap.size w6 wr)) (fun I _ => (S.length + 2 - (intOf I + 1)).toNat)
  case atStart => exact ⟨-1, rfl, by omega, by omega, ⟨Below.refl _ _⟩⟩
  case round =>
    obtain ⟨j, rfl, hj0, hj1, HB⟩ := hrel
    by_cases hjl : j ≤ S.length
    case neg =>
      have hnb : decide (j ≤ (S.length : Int)) = false := decide_eq_false hjl
      have HB9 := Aside0.mk (bel_trans HBW.out (bel_trans HB7.out HB.out))
      go_wp2_with fail
      go_ret
      exact ⟨rfl, by have h := HB9.out; first | exact h | (rewrite [hg] at h; exact h)⟩
    have hnb : decide (j ≤ (S.length : Int)) = true := decide_eq_true hjl
    by_cases hx : 0 ≤ j ∧ j < S.length
    case neg =>
      have HSt := Aside0.mk (fun (W' : World) (hb : Below wr.heap.size wr W') => (astate_any pa pg _ F S _ j W' ((HA7.out.below HB.out).below hb) HTl.out.2).mono (show ∀ e w', _ → (∃ A6 c6, e = .returned (.slice A6 0 c6)) ∧ Below W'.heap.size W' w' from fun e w' ⟨v, he, r1, r2⟩ => by
        rw [atG_out hx] at r1; obtain ⟨A6, c6, rfl, -, -⟩ := r1; exact ⟨⟨A6, c6, he⟩, r2⟩))
      have HTy := Aside0.mk (fun (W' : World) (hb : Below wr.heap.size wr W') => (atypes_any pa pg _ F S _ T E j W' ((HA7.out.below HB.out).below hb) ((HG7.out.below HB.out).below hb) HTl.out.2 HTl.out.1).mono (show ∀ e w', _ → (∃ A6 c6, e = .returned (.slice A6 0 c6)) ∧ Below W'.heap.size W' w' from fun e w' ⟨v, S1, he, r1, rt, r2⟩ => by
        rw [atG_out hx] at rt
        obtain rfl : S1 = [] := TypS.ext rt (TypS.nil T)
        obtain ⟨A6, c6, rfl, -, -⟩ := r1; exact ⟨⟨A6, c6, he⟩, r2⟩))
      have HFd := Aside0.mk (fun (W' : World) (hb : Below wr.heap.size wr W') => (afields_any pa pg _ F S _ T E j W' ((HA7.out.below HB.out).below hb) ((HG7.out.below HB.out).below hb) (fun s hs => ⟨HTl.out.2 s hs, (sm_ok HL.out.2.2 (HS.out.2.1.sm s hs).1).2⟩) (by have h := HL.out.1.2; have h2 := Hn.out.2; omega) (right_ok HL.out.2.2 HL.out.2.1)).mono (show ∀ e w', _ → (∃ A6 c6, e = .returned (.slice A6 0 c6)) ∧ Below W'.heap.size W' w' from fun e w' ⟨v, he, r1, r2⟩ => by
        rw [fldG_out hx] at r1; obtain ⟨A6, c6, rfl, -, -⟩ := r1.rd; exact ⟨⟨A6, c6, he⟩, r2⟩))
      have HSp := Aside0.mk (fun (W' : World) (hb : Below wr.heap.size wr W') => by
        have h := astep_any pa pg _ F S (stepG E S) j 0 W' ((HA7.out.below HB.out).below hb) (ok64_of (by omega) (by omega)) (ok64_of (by omega) (by omega))
        rewrite [step_out hx] at h; exact h)
      have HBr := Below.refl wr.heap.size wr
      have Hj := Aside0.mk (And.intro hj0 hjl)
      by_cases hjn : j < 0
      · obtain rfl : j = -1 := by omega
        clear hj0 hj1 hjl hx
        go_wp2_with fail
        refine (HSt.out _ (Below.refl _ _)).mono ?_
        rintro e w8 ⟨⟨A6, c6, rfl⟩, r1⟩
        go_wp2_with fail
        refine (HTy.out _ r1).mono ?_
        rintro e w9 ⟨⟨A7, c7, rfl⟩, r2⟩
        have r3 := bel_trans r1 r2
        clear r1 r2
        go_wp2_with fail
        refine (HFd.out _ r3).mono ?_
        rintro e w10 ⟨⟨A8, c8, rfl⟩, r2⟩
        have r4 := bel_trans r3 r2
        clear r2 r3
        go_wp2_with fail
        refine (HSp.out _ r4).mono ?_
        rintro e w11 ⟨rfl, rfl⟩
        have HB8 := Aside0.mk (bel_trans HB.out r4)
        clear r4
        go_wp2_with fail
        go_roundw
        case rel => exact ⟨0, by go_num, by have h := Hj.out; omega, by have h := Hj.out; omega, HB8⟩
        case measure => simp [intOf]; omega
      · obtain rfl : j = (S.length : Int) := by omega
        have q1 : decide ((S.length : Int) < 0) = false := decide_eq_false (by omega)
        have q2 : ¬ (S.length : Int) < 0 := by omega
        clear hj0 hj1 hjl hx
        go_wp2_with fail
        refine (HSt.out _ (Below.refl _ _)).mono ?_
        rintro e w8 ⟨⟨A6, c6, rfl⟩, r1⟩
        go_wp2_with fail
        refine (HTy.out _ r1).mono ?_
        rintro e w9 ⟨⟨A7, c7, rfl⟩, r2⟩
        have r3 := bel_trans r1 r2
        clear r1 r2
        go_wp2_with fail
        refine (HFd.out _ r3).mono ?_
        rintro e w10 ⟨⟨A8, c8, rfl⟩, r2⟩
        have r4 := bel_trans r3 r2
        clear r2 r3
        go_wp2_with fail
        refine (HSp.out _ r4).mono ?_
        rintro e w11 ⟨rfl, rfl⟩
        have HB8 := Aside0.mk (bel_trans HB.out r4)
        clear r4
        go_wp2_with fail
        go_roundw
        case rel => exact ⟨(S.length : Int) + 1, by go_num, by have h := Hj.out; omega, by have h := Hj.out; omega, HB8⟩
        case measure => simp [intOf]; omega
    obtain ⟨i, rfl⟩ : ∃ i : Nat, j = (i : Int) := ⟨j.toNat, by omega⟩
    have hin : i < S.length := by omega
    have q1 : decide ((i : Int) < 0) = false := decide_eq_false (by omega)
    have q2 : ¬ (i : Int) < 0 := by omega
    have q3 : ((i : Int) == (S.length : Int)) = false := by simp; omega
    have q4 : decide ((i : Int) = (S.length : Int)) = false := decide_eq_false (by omega)
    have q5 : ¬ (i : Int) = (S.length : Int) := by omega
    have i0 : (0 : Int) ≤ (i : Int) := by omega
    have i1 : (i : Int) < (S.length : Int) := by omega
    obtain ⟨ad, xa, xn, xc, rfl, e5, r1⟩ := (HV7.out.below HB.out).at_ hin
    obtain ⟨s, hs⟩ : ∃ s, S.getD i [] = s := ⟨_, rfl⟩
    rw [hs] at r1
    have Hs := Aside0.mk (And.intro hin (And.intro hs (show s ∈ S by rw [← hs]; exact getD_mem hin)))
    have HVs := Aside0.mk r1
    have HWr := Aside0.mk (bel_trans HB7.out HB.out)
    have HRf := Aside0.mk (fun (W' : World) (hb : Below wr.heap.size wr W') => rfields_any A A2 nT c c2 E (.slice xa xn xc) s W' ((H.out.2.2.2.1.below HWr.out).below hb) (HVs.out.below hb) (by have h := HL.out.1.2; omega))
    rw [Hn.out.2] at HRf
    have HSt := Aside0.mk (fun (W' : World) (hb : Below wr.heap.size wr W') => by
      have h := astate_any pa pg _ F S _ (i : Int) W' ((HA7.out.below HB.out).below hb) HTl.out.2
      rewrite [atG_nat Hs.out.1, Hs.out.2.1] at h; exact h)
    have HTy := Aside0.mk (fun (W' : World) (hb : Below wr.heap.size wr W') => by
      have h := atypes_any pa pg _ F S _ T E (i : Int) W' ((HA7.out.below HB.out).below hb) ((HG7.out.below HB.out).below hb) HTl.out.2 HTl.out.1
      rewrite [atG_nat Hs.out.1, Hs.out.2.1] at h; exact h)
    have HRt := Aside0.mk (fun (W' : World) (hb : Below wr.heap.size wr W') => by
      have h := rtypes_any A A2 c nE c2 T (.slice xa xn xc) s W' ((H.out.2.2.1.below HWr.out).below hb) (HVs.out.below hb) ⟨by have := HTl.out.1; omega, by have := HTl.out.2 s Hs.out.2.2; omega⟩
      rewrite [Hn.out.1] at h; exact h)
    have HFd := Aside0.mk (fun (W' : World) (hb : Below wr.heap.size wr W') => by
      have h := afields_any pa pg _ F S _ T E (i : Int) W' ((HA7.out.below HB.out).below hb) ((HG7.out.below HB.out).below hb) (fun s hs => ⟨HTl.out.2 s hs, (sm_ok HL.out.2.2 (HS.out.2.1.sm s hs).1).2⟩) (by have h := HL.out.1.2; have h2 := Hn.out.2; omega) (right_ok HL.out.2.2 HL.out.2.1)
      rewrite [fldG_nat Hs.out.1, Hs.out.2.1] at h; exact h)
    have HSp := Aside0.mk (fun (W' : World) (hb : Below wr.heap.size wr W') (f : Int) (hf : ok64 f) => by
      have h := astep_any pa pg _ F S (stepG E S) (i : Int) f W' ((HA7.out.below HB.out).below hb) (ok64_of (by omega) (by omega)) hf
      rewrite [step_same HL.out.2.1 Ho.out.1 Ho.out.2 HS.out.1 Hs.out.1 f] at h; exact h)
    have HRp := Aside0.mk (fun (W' : World) (hb : Below wr.heap.size wr W') (f : Int) => by
      have h := rstep_any A A2 nT c c2 E (.slice (some ad) S.length c5) S (i : Int) f W' ((H.out.2.2.2.1.below HWr.out).below hb) ((HV7.out.below HB.out).below hb) (by have h := HL.out.1.2; omega) (by have := HS.out.2.2; omega)
      rewrite [Hn.out.2] at h; exact h)
    have HSm := Aside0.mk (fun (W' : World) (u v : Value) (l : List Int) (h1 : RdV W' u l) (h2 : RdV W' v l) => (show Calls Tryz.prog 35 #[u, v] W' fun e w' => e = .returned (.bool true) ∧ Below W'.heap.size W' w' by
      have h := same_any u v l l W' h1 h2
      rewrite [decide_eq_true rfl] at h; exact h))
    have HTx := Aside0.mk (fun (W' : World) (u1 u2 : Value) (S1 S2 : List ByteArray) (h1 : RdS W' u1 S1) (h2 : RdS W' u2 S2) (t1 : TypS T s S1) (t2 : TypS T s S2) => (show Calls Tryz.prog 22 #[u1, u2] W' fun e w' => e = .returned (.bool true) ∧ Below W'.heap.size W' w' by
      obtain rfl := TypS.ext t1 t2
      exact texts_same u1 u2 S1 W' h1 h2 (by have := t1.len; have := HTl.out.2 s Hs.out.2.2; omega)))
    have g0 : wr.cell? ⟨g, 0, none⟩ = some (.slice A nT c) := blk_cellD (Ow.blk_below Hb.out HWr.out) 0 _ rfl
    have g1 : wr.cell? ⟨g, 1, none⟩ = some (.slice A2 nE c2) := blk_cellD (Ow.blk_below Hb.out HWr.out) 1 _ rfl
    have HBr := Below.refl wr.heap.size wr
    clear hj0 hj1 hjl hx hin hs r1
    go_wp2_with fail
    go_region_held3 (fun W' => W'.cell? ⟨g, 0, none⟩ = some (.slice A nT c) ∧ W'.cell? ⟨g, 1, none⟩ = some (.slice A2 nE c2) ∧ W'.cell? (ad.add i) = some (.slice xa xn xc) ∧ Below wr.heap.size wr W') (first | (refine ⟨pw_cell_below (w := wr) ?_ g0, pw_cell_below (w := wr) ?_ g1, pw_cell_below (w := wr) ?_ e5, ?_⟩ <;> simp [*]) | go_keep)
      (first
        | (go_at_call 34; (with_reducible refine (HRf.out _ (by simp [*])).mono ?_); rintro e w8 ⟨u8, rfl, r1, r3⟩; have HU8 := Aside0.mk r1; have HB9 := bel_trans (wb := wr) (by simp [*]) r3; clear r1 r3)
        | fail)
    rename_i hHeld
    obtain ⟨A8, c8, rfl, hc8, hr8⟩ := HU8.out
    have HU := Aside0.mk (show RdV w8 (.slice A8 (fieldsG E s).length c8) (fieldsG E s) from ⟨A8, c8, rfl, hc8, hr8⟩)
    have HBa := Aside0.mk HB9
    have g0 : w8.cell? ⟨g, 0, none⟩ = some (.slice A nT c) := bel_cell HB9 g0
    have g1 : w8.cell? ⟨g, 1, none⟩ = some (.slice A2 nE c2) := bel_cell HB9 g1
    have e5 : w8.cell? (ad.add i) = some (.slice xa xn xc) := pw_cell_below (w := wr) HB9 e5
    obtain ⟨fl, hfl⟩ : ∃ fl, fieldsG E s = fl := ⟨_, rfl⟩
    rw [hfl] at HU HFd ⊢
    obtain ⟨nf, hnf⟩ : ∃ nf, fl.length = nf := ⟨_, rfl⟩
    have Hnf := Aside0.mk (And.intro hnf (And.intro hfl (show nf ≤ 1000 by rw [← hnf, ← hfl]; exact Nat.le_trans (fields_len E _) (by have h := HL.out.1.2; have h2 := Hn.out.2; omega))))
    rw [hnf] at HU ⊢
    have HBr := Below.refl w8.heap.size w8
    clear hHeld HB9 HU8 hc8 hr8 hfl hnf HRf
    go_wp2_with fail
    go_region_held3 (fun W' => W'.cell? ⟨g, 0, none⟩ = some (.slice A nT c) ∧ W'.cell? ⟨g, 1, none⟩ = some (.slice A2 nE c2) ∧ W'.cell? (ad.add i) = some (.slice xa xn xc) ∧ Below w8.heap.size w8 W') (first | (exact ⟨bel_cell HB9 g0, bel_cell HB9 g1, pw_cell_below (w := w8) HB9 e5, HB9⟩) | (refine ⟨pw_cell_below (w := w8) ?_ g0, pw_cell_below (w := w8) ?_ g1, pw_cell_below (w := w8) ?_ e5, ?_⟩ <;> simp [*]) | go_keep)
      (first
        | (go_at_call 32; (with_reducible refine (HSt.out _ (bel_trans HBa.out (by simp [*]))).mono ?_); rintro e w9 ⟨u1, rfl, r1, r3⟩; have HX1 := Aside0.mk r1; have HB9 := bel_trans (wb := w8) (by simp [*]) r3; clear r1 r3)
        | (go_at_call 33; (with_reducible refine (HTy.out _ (bel_trans HBa.out (by simp [*]))).mono ?_); rintro e w9 ⟨u2, S2, rfl, r1, r2, r3⟩; (first | (have HX3 := Aside0.mk (And.intro (HX3.out.1.below r3) HX3.out.2)) | skip); have HX2 := Aside0.mk (And.intro r1 r2); have HB9 := bel_trans (wb := w8) (by simp [*]) r3; clear r1 r2 r3)
        | (go_at_call 24; (with_reducible refine (HRt.out _ (bel_trans HBa.out (by simp [*]))).mono ?_); rintro e w9 ⟨u3, S3, rfl, r1, r2, r3⟩; (first | (have HX2 := Aside0.mk (And.intro (HX2.out.1.below r3) HX2.out.2)) | skip); have HX3 := Aside0.mk (And.intro r1 r2); have HB9 := bel_trans (wb := w8) (by simp [*]) r3; clear r1 r2 r3)
        | (go_at_call 22; (with_reducible refine (HTx.out _ _ _ _ _ HX2.out.1 HX3.out.1 HX2.out.2 HX3.out.2).mono ?_); rintro e w9 ⟨rfl, r3⟩; have HB9 := bel_trans (wb := w8) (by simp [*]) r3; clear r3)
        | (go_at_call 27; (with_reducible refine (HFd.out _ (bel_trans HBa.out (by simp [*]))).mono ?_); rintro e w9 ⟨u4, rfl, r1, r3⟩; have HX4 := Aside0.mk r1.toV; have HB9 := bel_trans (wb := w8) (by simp [*]) r3; clear r1 r3)
        | (go_at_call 35; (with_reducible refine (HSm.out _ _ _ s (by first | exact HX1.out) (HVs.out.below (bel_trans HBa.out (by simp [*])))).mono ?_); rintro e w9 ⟨rfl, r3⟩; have HB9 := bel_trans (wb := w8) (by simp [*]) r3; clear r3)
        | (go_at_call 35; (with_reducible refine (HSm.out _ _ _ fl (by first | exact HX4.out) (HU.out.below (by simp [*]))).mono ?_); rintro e w9 ⟨rfl, r3⟩; have HB9 := bel_trans (wb := w8) (by simp [*]) r3; clear r3)
        | (go_at_call 28; (with_reducible refine (HSp.out _ (bel_trans HBa.out (by simp [*])) _ (ok64_of (by omega) (by omega))).mono ?_); rintro e w9 ⟨rfl, rfl⟩)
        | (go_at_call 36; (with_reducible refine (HRp.out _ (bel_trans HBa.out (by simp [*])) _).mono ?_); rintro e w9 ⟨rfl, r3⟩; have HB9 := bel_trans (wb := w8) (by simp [*]) r3; clear r3)
        | fail)
    have HC := Aside0.mk (bel_trans HBa.out HB9)
    have HU9 := Aside0.mk (HU.out.below HB9)
    rename_i hHeld
    clear hHeld HB9 HX1 HX2 HX3 HX4 HBr HU HBa HSt HTy HRt HFd HSm HTx g0 g1 e5 HVs
    go_wp2_with fail
    go_loopw [14] (fun K wy => ∃ k : Nat, K = .int .i64 (k : Int) ∧ k ≤ nf ∧ Aside0 (Below w9.heap.size w9 wy)) (fun K _ => nf - (intOf K).toNat)
    case atStart => exact ⟨0, rfl, Nat.zero_le _, ⟨Below.refl _ _⟩⟩
    case round =>
      obtain ⟨k, rfl, hk, HD⟩ := hrel
      by_cases hkn : k < nf
      · have hnb : decide ((k : Int) < (nf : Int)) = true := decide_eq_true (by omega)
        have hnc : decide (k < nf) = true := decide_eq_true hkn
        have k0 : (0 : Int) ≤ (k : Int) := by omega
        have k1 : (k : Int) < (nf : Int) := by omega
        have k2 : (k : Int) ≤ 1000 := by have := Hnf.out.2.2; omega
        have HWy := Aside0.mk (bel_trans HC.out HD.out)
        have HWW := Aside0.mk (bel_trans HWr.out HWy.out)
        obtain ⟨A6, c6, he6, -, hr6⟩ := HU9.out.below HD.out
        injection he6 with hq1 hq2 hq3
        subst hq1; subst hq3
        obtain ⟨ad8, rfl, e1⟩ := hr6.at_ (k : Int) (by omega) (by omega)
        obtain ⟨x, hx⟩ : ∃ x, fl.getD k 0 = x := ⟨_, rfl⟩
        have e1 : wr.cell? (ad8.add k) = some (.int .i64 x) := by rw [← hx]; simpa [rd] using e1
        have hxo : ok64 x := fields_ok H.out.2.2.2.2.1 s x (by rw [Hnf.out.2.1, ← hx]; exact getD_mem (by omega))
        have HSp2 := Aside0.mk (fun (W' : World) (hb : Below wr.heap.size wr W') => HSp.out W' (bel_trans HWy.out hb) x hxo)
        have HRp2 := Aside0.mk (fun (W' : World) (hb : Below wr.heap.size wr W') => HRp.out W' (bel_trans HWy.out hb) x)
        have g0 : wr.cell? ⟨g, 0, none⟩ = some (.slice A nT c) := blk_cellD (Ow.blk_below Hb.out HWW.out) 0 _ rfl
        have g1 : wr.cell? ⟨g, 1, none⟩ = some (.slice A2 nE c2) := blk_cellD (Ow.blk_below Hb.out HWW.out) 1 _ rfl
        obtain ⟨z, hz⟩ : ∃ z, rstepG E S (i : Int) x = z := ⟨_, rfl⟩
        rewrite [hz] at HSp2 HRp2
        have Hk := Aside0.mk hkn
        have HBr := Below.refl wr.heap.size wr
        clear hkn hk hx hxo hz hr6 hq2
        go_wp2_with fail
        go_region_held3 (fun W' => W'.cell? ⟨g, 0, none⟩ = some (.slice A nT c) ∧ W'.cell? ⟨g, 1, none⟩ = some (.slice A2 nE c2) ∧ W'.cell? (ad8.add k) = some (.int .i64 x) ∧ Below wr.heap.size wr W') (first | (exact ⟨bel_cell HB9 g0, bel_cell HB9 g1, pw_cell_below (w := wr) HB9 e1, HB9⟩) | (refine ⟨pw_cell_below (w := wr) ?_ g0, pw_cell_below (w := wr) ?_ g1, pw_cell_below (w := wr) ?_ e1, ?_⟩ <;> simp [*]) | go_keep)
          (first
            | (go_at_call 28; (with_reducible refine (HSp2.out _ (by simp [*])).mono ?_); rintro e w10 ⟨rfl, rfl⟩)
            | (go_at_call 36; (with_reducible refine (HRp2.out _ (by simp [*])).mono ?_); rintro e w10 ⟨rfl, r3⟩; have HB9 := bel_trans (wb := wr) (by simp [*]) r3; clear r3)
            | fail)
        have HD2 := Aside0.mk (bel_trans HD.out HB9)
        rename_i hHeld
        clear hHeld HB9 HBr HSp2 HRp2 g0 g1 e1
        go_wp2_with fail
        go_roundw
        case rel => exact ⟨k + 1, by go_num, Hk.out, HD2⟩
        case measure => have := Hk.out; simp [intOf]; omega
      · have hnb : decide ((k : Int) < (nf : Int)) = false := decide_eq_false (by omega)
        have hnc : decide (k < nf) = false := decide_eq_false hkn
        have HB8 := Aside0.mk (bel_trans HB.out (bel_trans HC.out HD.out))
        have HI := Aside0.mk Hs.out.1
        clear hkn hk
        go_wp2_with fail
        go_roundw
        case rel => exact ⟨(i : Int) + 1, by go_num, by omega, by have := HI.out; omega, HB8⟩
        case measure => have := HI.out; simp [intOf]; omega

end Go.Proofs.YtkpadjhdneiniaaGreatDoor.Am
