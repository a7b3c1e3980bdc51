/- AutoRuns: its walk. -/
import Derived.Test.YtkpadjhdneiniaaGreatDoorBd
namespace Go.Proofs.YtkpadjhdneiniaaGreatDoor.Am
set_option linter.unusedVariables false
open Go.RowKit Go.Proofs.YtkpadjhdneiniaaGreatDoorW.PrintWords Go.Proofs.YtkpadjhdneiniaaGreatDoorW.PrintLast Go.Proofs.YtkpadjhdneiniaaGreatDoorW.PrintMore Go.Maps
open Go.Proofs.YtkpadjhdneiniaaGreatDoor.Base Go.Proofs.YtkpadjhdneiniaaGreatDoor.Map Go.Proofs.YtkpadjhdneiniaaGreatDoor.Sl Go.Proofs.YtkpadjhdneiniaaGreatDoor.Ow Go.Proofs.YtkpadjhdneiniaaGreatDoor.Se Go.Proofs.YtkpadjhdneiniaaGreatDoor.Gr Go.Proofs.YtkpadjhdneiniaaGreatDoor.Rf Go.Proofs.YtkpadjhdneiniaaGreatDoor.Tx Go.Proofs.YtkpadjhdneiniaaGreatDoor.Au



theorem getD_idx {S : List (List Int)} {s : List Int} (h : s ∈ S) : S.getD (S.idxOf s) [] = s := by
  rw [List.getD_eq_getElem?_getD, List.getElem?_eq_getElem (List.idxOf_lt_length_of_mem h)]; exact List.getElem_idxOf _
/-- where a word leads in the automaton, there it leads in the graph -/
theorem run_cases {n : Nat} {E : List GE} {o : Int} {S : List (List Int)} (hR : RightG n E) (h0 : 0 ≤ o) (h1 : o < n) (hS : statesG E n o = S) (l : List Int) :
    (ledG E o l ≠ [] ∧ ∃ k : Nat, runG (stepG E S) l = (k : Int) ∧ k < S.length ∧ S.getD k [] = ledG E o l) ∨ (ledG E o l = [] ∧ runG (stepG E S) l = -1) := by
  have hI : StI n E o S := by rw [← hS]; exact states_inv hR h0 h1
  have hN : ∀ s ∈ S, ∀ f ∈ fieldsG E s, nextG E f s ∈ S := fun s hs f hf => by
    have h := states_next hR h0 h1 (s := s) (by rw [hS]; exact hs) hf
    rw [hS] at h; exact h
  suffices hk : ∀ i, i ≤ l.length → (ledG E o (l.take i) ≠ [] ∧ ∃ k : Nat, runG (stepG E S) (l.take i) = (k : Int) ∧ k < S.length ∧ S.getD k [] = ledG E o (l.take i)) ∨ (ledG E o (l.take i) = [] ∧ runG (stepG E S) (l.take i) = -1) by
    have := hk l.length (Nat.le_refl _)
    rw [List.take_length] at this; exact this
  intro i
  induction i with
  | zero =>
    intro _
    rw [List.take_zero]
    refine .inl ⟨by unfold ledG; simp, 0, rfl, ?_, ?_⟩
    · have := hI.head.length_le; simp at this; exact this
    · rw [List.getD_eq_getElem?_getD, pre_get hI.head (by simp)]; rfl
  | succ i ih =>
    intro hi
    rw [take_snoc (by omega), ledG_snoc, runG_snoc]
    generalize l.getD i 0 = f
    have ih := ih (by omega)
    generalize l.take i = l at ih ⊢
    rcases ih with ⟨h2, k, h3, h4, h5⟩ | ⟨h2, h3⟩
    · rw [h3]
      by_cases hf : f ∈ fieldsG E (ledG E o l)
      · have hm := hN _ (by rw [← h5]; exact getD_mem h4) f hf
        refine .inl ⟨next_ne h2 hf, S.idxOf (nextG E f (ledG E o l)), ?_, List.idxOf_lt_length_of_mem hm, getD_idx hm⟩
        have e : stepG E S (k : Int) f = some (ledTo E S (S.getD k []) f) := by
          unfold stepG
          rw [Int.toNat_natCast, if_pos ⟨by omega, by omega, by rw [h5]; exact hf⟩]
        rw [e, h5]; rfl
      · refine .inr ⟨Au.next_none hf, ?_⟩
        have e : stepG E S (k : Int) f = none := by
          unfold stepG
          rw [Int.toNat_natCast, if_neg (fun h => hf (by rw [← h5]; exact h.2.2))]
        rw [e]; rfl
    · rw [h2, h3]
      refine .inr ⟨Au.next_nil E f, ?_⟩
      have e : stepG E S (-1) f = none := by
        unfold stepG
        rw [if_neg (fun h => by omega)]
      rw [e]; rfl
theorem run_led {n : Nat} {E : List GE} {o : Int} {S : List (List Int)} (hR : RightG n E) (h0 : 0 ≤ o) (h1 : o < n) (hS : statesG E n o = S) (l : List Int) : atG S (runG (stepG E S) l) = ledG E o l := by
  rcases run_cases hR h0 h1 hS l with ⟨_, k, h3, h4, h5⟩ | ⟨h2, h3⟩
  · rw [h3, atG_nat h4, h5]
  · rw [h3, h2]; exact atG_out (fun h => by omega)
set_option maxHeartbeats 16000000 in
set_option maxRecDepth 100000 in
theorem runs_law (A : Option Addr) (c : Nat) (T : List ByteArray) (A2 : Option Addr) (c2 : Nat) (E : List GE) (o : Int) (v : Value) (l : List Int) (w : World) (hTZ : TZ w) (hP : P10 w) (hT : RdT w A T) (hE : RdE w A2 E) (hv : RdV w v l) (hokE : ∀ a f z, (a, f, z) ∈ E → ok64 f) (hokl : ∀ x ∈ l, ok64 x) :
    Calls Tryz.prog 3 #[.agg #[.slice A T.length c, .slice A2 E.length c2], .int .i64 o, v] w fun e w' => e = .returned (.bool true) ∧ Below w.heap.size w w' := by
  obtain ⟨AV, cV, rfl, hcV, hrV⟩ := hv
  have hmx := hrV.max
  obtain ⟨W, hW⟩ : ∃ W, w.alloc (.cells #[.slice A T.length c, .slice A2 E.length c2] 25) = W := ⟨_, rfl⟩
  have HBW := Aside0.mk (show Below w.heap.size w W by rw [← hW]; exact below_alloc (Below.refl _ _) _)
  have Hb := Aside0.mk (show W.heap[w.heap.size]? = some (.cells #[.slice A T.length c, .slice A2 E.length c2] 25 (0, 0)) by rw [← hW]; exact heap_alloc_new _ _)
  obtain ⟨g, hg⟩ : ∃ g, w.heap.size = g := ⟨_, rfl⟩
  rw [hg] at Hb
  have HAw := Aside0.mk (fun (W' : World) (hb : Below W.heap.size W W') => awake_any W' (hTZ.below (bel_trans HBW.out hb)) (hP.below (bel_trans HBW.out hb)))
  have HLi := Aside0.mk (fun (W' : World) (hb : Below W.heap.size W W') => light_any A A2 T.length c c2 E W' (hE.below (bel_trans HBW.out hb)))
  have HV := Aside0.mk (RdV.below (v := .slice AV l.length cV) ⟨AV, cV, rfl, hcV, hrV⟩ HBW.out)
  have H := Aside0.mk (And.intro (hTZ.below HBW.out) (And.intro (hP.below HBW.out) (And.intro (hT.below HBW.out) (And.intro (hE.below HBW.out) (And.intro hokE hokl)))))
  obtain ⟨nT, hnT⟩ : ∃ nT, T.length = nT := ⟨_, rfl⟩
  obtain ⟨nE, hnE⟩ : ∃ nE, E.length = nE := ⟨_, rfl⟩
  obtain ⟨nl, hnl⟩ : ∃ nl, l.length = nl := ⟨_, rfl⟩
  have Hn := Aside0.mk (And.intro hnT (And.intro hnE hnl))
  rw [hnT, hnE] at hW Hb HLi
  rw [hnT, hnE]
  rw [hnl] at HV hmx ⊢
  clear hTZ hP hT hE hcV hrV hokE hokl hnT hnE hnl
  go_enter Tryz.func3, Tryz.ntmps3
  go_wp2_with fail
  clear hW
  refine (HAw.out W (Below.refl _ _)).mono ?_
  rintro e w1 ⟨rfl, r1⟩
  have HB1 := Aside0.mk r1
  clear r1
  have g0 : w1.cell? ⟨g, 0, none⟩ = some (.slice A nT c) := blk_cellD (Ow.blk_below Hb.out HB1.out) 0 _ rfl
  have g1 : w1.cell? ⟨g, 1, none⟩ = some (.slice A2 nE c2) := blk_cellD (Ow.blk_below Hb.out HB1.out) 1 _ rfl
  go_wp2_with fail
  refine (HLi.out w1 HB1.out).mono ?_
  rintro e w2 ⟨rfl, r1⟩
  have HB2 := Aside0.mk (bel_trans HB1.out r1)
  clear r1 g0 g1
  by_cases hli : LightG nT E
  case neg =>
    have d := decide_eq_false hli
    rw [d]
    clear d hli
    go_wp2_with fail
    refine (HAw.out _ HB2.out).mono ?_
    rintro e wz ⟨rfl, rz⟩
    have HBz := Aside0.mk (bel_trans HBW.out (bel_trans HB2.out rz))
    clear rz
    go_wp2_with fail
    go_ret
    exact ⟨rfl, by have h := HBz.out; first | exact h | (rw [hg] at h; exact h)⟩
  have d := decide_eq_true hli
  rw [d]
  have HL := Aside0.mk hli
  clear d hli
  have g0 : w2.cell? ⟨g, 0, none⟩ = some (.slice A nT c) := blk_cellD (Ow.blk_below Hb.out HB2.out) 0 _ rfl
  have g1 : w2.cell? ⟨g, 1, none⟩ = some (.slice A2 nE c2) := blk_cellD (Ow.blk_below Hb.out HB2.out) 1 _ rfl
  by_cases h30 : nl ≤ 30
  case neg =>
    have d1 : decide ((30 : Int) < (nl : Int)) = true := decide_eq_true (by omega)
    have d2 : (30 : Int) < (nl : Int) := by omega
    go_wp2_with fail
    refine (HAw.out _ HB2.out).mono ?_
    rintro e wz ⟨rfl, rz⟩
    have HBz := Aside0.mk (bel_trans HBW.out (bel_trans HB2.out rz))
    clear rz
    go_wp2_with fail
    go_ret
    exact ⟨rfl, by have h := HBz.out; first | exact h | (rw [hg] at h; exact h)⟩
  have d1 : decide ((30 : Int) < (nl : Int)) = false := decide_eq_false (by omega)
  have d2 : ¬ (30 : Int) < (nl : Int) := by omega
  have H30 := Aside0.mk h30
  by_cases h0 : 0 ≤ o
  case neg =>
    have e1 : decide (o < 0) = true := decide_eq_true (by omega)
    have e2 : o < 0 := by omega
    clear h30 h0
    go_wp2_with fail
    refine (HAw.out _ HB2.out).mono ?_
    rintro e wz ⟨rfl, rz⟩
    have HBz := Aside0.mk (bel_trans HBW.out (bel_trans HB2.out rz))
    clear rz
    go_wp2_with fail
    go_ret
    exact ⟨rfl, by have h := HBz.out; first | exact h | (rw [hg] at h; exact h)⟩
  have e1 : decide (o < 0) = false := decide_eq_false (by omega)
  by_cases h1 : o < nT
  case neg =>
    have e3 : decide ((nT : Int) ≤ o) = true := decide_eq_true (by omega)
    have e4 : (nT : Int) ≤ o := by omega
    clear h30
    go_wp2_with fail
    refine (HAw.out _ HB2.out).mono ?_
    rintro e wz ⟨rfl, rz⟩
    have HBz := Aside0.mk (bel_trans HBW.out (bel_trans HB2.out rz))
    clear rz
    go_wp2_with fail
    go_ret
    exact ⟨rfl, by have h := HBz.out; first | exact h | (rw [hg] at h; exact h)⟩
  have e3 : decide ((nT : Int) ≤ o) = false := decide_eq_false (by omega)
  have e4 : ¬ (nT : Int) ≤ o := by omega
  have Ho := Aside0.mk (And.intro h0 h1)
  have HNw := Aside0.mk (new_any A c T A2 c2 E w2 (H.out.2.2.1.below HB2.out) (H.out.2.2.2.1.below HB2.out) (by have h := HL.out.2.2; have h2 := Hn.out.1; omega) (by have h := HL.out.1.2; omega) H.out.2.2.2.2.1 (by rw [Hn.out.1]; exact HL.out.2.1))
  rw [Hn.out.1, Hn.out.2.1] at HNw
  clear h30 h1
  go_wp2_with fail
  refine HNw.out.mono ?_
  rintro e w3 ⟨pg, lab, rfl, r1, r2⟩
  have HG3 := Aside0.mk (GA.mk ⟨lab, r1⟩)
  have HB3 := Aside0.mk (bel_trans HB2.out r2)
  clear r1 r2 HNw g0 g1
  have HBd := Aside0.mk (build_any pg T E o 1000 w3 HG3.out (H.out.1.below HB3.out) (H.out.2.1.below HB3.out) (by rw [Hn.out.1]; exact HL.out.2.1) (by rw [Hn.out.1]; exact HL.out.2.2) HL.out.1.2 H.out.2.2.2.2.1 Ho.out.1 (by rw [Hn.out.1]; exact Ho.out.2) (by decide))
  rw [Hn.out.1] at HBd
  obtain ⟨S, hS⟩ : ∃ S, statesG E nT o = S := ⟨_, rfl⟩
  rw [hS] at HBd
  have hSI : StI nT E o S := by rw [← hS]; exact states_inv HL.out.2.1 Ho.out.1 Ho.out.2
  have hSl : S.length ≤ 256 := Nat.le_trans hSI.len (Nat.pow_le_pow_right (by decide) HL.out.2.2)
  have HS := Aside0.mk (And.intro hS (And.intro hSI hSl))
  clear hS hSI hSl
  go_wp2_with fail
  refine HBd.out.mono ?_
  rintro e w4 ⟨r1, ⟨-, pa, F, rfl, r2⟩ | ⟨r2, -⟩⟩
  case inr => exact absurd (show ((S.length : Nat) : Int) ≤ 1000 by have := HS.out.2.2; omega) r2
  have HA4 := Aside0.mk r2
  have HG4 := Aside0.mk (HG3.out.below r1)
  have HB4 := Aside0.mk (bel_trans HB3.out r1)
  clear r1 r2 HBd
  have g0 : w4.cell? ⟨g, 0, none⟩ = some (.slice A nT c) := blk_cellD (Ow.blk_below Hb.out HB4.out) 0 _ rfl
  have g1 : w4.cell? ⟨g, 1, none⟩ = some (.slice A2 nE c2) := blk_cellD (Ow.blk_below Hb.out HB4.out) 1 _ rfl
  have HRn := Aside0.mk (fun (W' : World) (hb : Below w4.heap.size w4 W') => arun_any pa pg _ F S _ T E _ l W' (HA4.out.below hb) (HG4.out.below hb) (fun s hs => by have h := (sm_ok HL.out.2.2 (HS.out.2.1.sm s hs).1).1; omega) (by have h := HL.out.2.2; have h2 := Hn.out.1; omega) (stepG_ok (by have := HS.out.2.2; omega)) ((HV.out.below HB4.out).below hb) H.out.2.2.2.2.2 (by have := Hn.out.2.2; have := H30.out; omega))
  have hrl : atG S (runG (stepG E S) l) = ledG E o l := run_led HL.out.2.1 Ho.out.1 Ho.out.2 HS.out.1 l
  rw [hrl] at HRn
  have HLd := Aside0.mk (fun (W' : World) (hb : Below w4.heap.size w4 W') => rled_any A A2 nT c c2 E o _ l W' ((H.out.2.2.2.1.below HB4.out).below hb) ((HV.out.below HB4.out).below hb) (by have h := HL.out.1.2; omega) (by have := Hn.out.2.2; have := H30.out; omega))
  rw [Hn.out.2.1] at HLd
  have hll : (ledG E o l).length ≤ 1000000 := by
    rw [← hrl]
    by_cases hx : 0 ≤ runG (stepG E S) l ∧ runG (stepG E S) l < S.length
    · unfold atG; rw [if_pos hx]
      have h := (sm_ok HL.out.2.2 (HS.out.2.1.sm _ (getD_mem (d := ([] : List Int)) (show (runG (stepG E S) l).toNat < S.length by omega))).1).1
      omega
    · rw [atG_out hx]; simp
  have HTy := Aside0.mk (fun (W' : World) (hb : Below w4.heap.size w4 W') (u : Value) (hu : RdV W' u (ledG E o l)) => rtypes_any A A2 c nE c2 T u (ledG E o l) W' ((H.out.2.2.1.below HB4.out).below hb) hu ⟨by have h := HL.out.2.2; have h2 := Hn.out.1; omega, hll⟩)
  rw [Hn.out.1] at HTy
  obtain ⟨ld, hld⟩ : ∃ ld, ledG E o l = ld := ⟨_, rfl⟩
  rw [hld] at HRn HLd HTy hll
  have HTx := Aside0.mk (fun (W' : World) (u1 u2 : Value) (S1 S2 : List ByteArray) (h1 : RdS W' u1 S1) (h2 : RdS W' u2 S2) (t1 : TypS T ld S1) (t2 : TypS T ld S2) => (show Calls Tryz.prog 22 #[u1, u2] W' fun e w' => e = .returned (.bool true) ∧ Below W'.heap.size W' w' by
    obtain rfl := TypS.ext t1 t2
    exact texts_same u1 u2 S1 W' h1 h2 (by have := t1.len; omega)))
  have HBr := Below.refl w4.heap.size w4
  clear hrl hll hld
  go_wp2_with fail
  go_region_held3 (fun W' => W'.cell? ⟨g, 0, none⟩ = some (.slice A nT c) ∧ W'.cell? ⟨g, 1, none⟩ = some (.slice A2 nE c2) ∧ Below w4.heap.size w4 W') (first | (exact ⟨bel_cell HB9 g0, bel_cell HB9 g1, HB9⟩) | (refine ⟨pw_cell_below (w := w4) ?_ g0, pw_cell_below (w := w4) ?_ g1, ?_⟩ <;> simp [*]) | go_keep)
    (first
      | (go_at_call 23; (with_reducible refine (HRn.out _ (by simp [*])).mono ?_); rintro e w5 ⟨u1, S1, rfl, r1, r2, r3⟩; (first | (have HX2 := Aside0.mk (HX2.out.below r3)) | skip); (first | (have HX3 := Aside0.mk (And.intro (HX3.out.1.below r3) HX3.out.2)) | skip); have HX1 := Aside0.mk (And.intro r1 r2); have HB9 := bel_trans (wb := w4) (by simp [*]) r3; clear r1 r2 r3)
      | (go_at_call 25; (with_reducible refine (HLd.out _ (by simp [*])).mono ?_); rintro e w5 ⟨u2, rfl, r1, r3⟩; (first | (have HX1 := Aside0.mk (And.intro (HX1.out.1.below r3) HX1.out.2)) | skip); have HX2 := Aside0.mk r1; have HB9 := bel_trans (wb := w4) (by simp [*]) r3; clear r1 r3)
      | (go_at_call 24; (with_reducible refine (HTy.out _ (by simp [*]) _ (by first | exact HX2.out)).mono ?_); rintro e w5 ⟨u3, S3, rfl, r1, r2, r3⟩; (first | (have HX1 := Aside0.mk (And.intro (HX1.out.1.below r3) HX1.out.2)) | skip); have HX3 := Aside0.mk (And.intro r1 r2); have HB9 := bel_trans (wb := w4) (by simp [*]) r3; clear r1 r2 r3)
      | (go_at_call 22; (with_reducible refine (HTx.out _ _ _ _ _ HX1.out.1 HX3.out.1 HX1.out.2 HX3.out.2).mono ?_); rintro e w5 ⟨rfl, r3⟩; have HB9 := bel_trans (wb := w4) (by simp [*]) r3; clear r3)
      | fail)
  all_goals go_wp2_with fail
  all_goals go_ret
  all_goals exact ⟨rfl, by have h := bel_trans HBW.out (bel_trans HB4.out HB9); first | exact h | (rw [hg] at h; exact h)⟩

end Go.Proofs.YtkpadjhdneiniaaGreatDoor.Am
