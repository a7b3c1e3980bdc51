/- EqualWords: its walk. -/
import Derived.Test.YtkpadjhdneiniaaGreatDoorNb
namespace Go.Proofs.YtkpadjhdneiniaaGreatDoor.Am
set_option linter.unusedVariables false
open Go.RowKit Go.Proofs.YtkpadjhdneiniaaGreatDoorW.PrintWords Go.Proofs.YtkpadjhdneiniaaGreatDoorW.PrintLast Go.Proofs.YtkpadjhdneiniaaGreatDoorW.PrintMore Go.Maps
open Go.Proofs.YtkpadjhdneiniaaGreatDoor.Base Go.Proofs.YtkpadjhdneiniaaGreatDoor.Map Go.Proofs.YtkpadjhdneiniaaGreatDoor.Sl Go.Proofs.YtkpadjhdneiniaaGreatDoor.Ow Go.Proofs.YtkpadjhdneiniaaGreatDoor.Se Go.Proofs.YtkpadjhdneiniaaGreatDoor.Gr Go.Proofs.YtkpadjhdneiniaaGreatDoor.Rf Go.Proofs.YtkpadjhdneiniaaGreatDoor.Tx Go.Proofs.YtkpadjhdneiniaaGreatDoor.Au



open Go.Proofs.YtkpadjhdneiniaaGreatDoor.Eb
/-- what an automaton runs to, said by its types -/
theorem arun_ty (pa pg : Nat) (F : Nat → Prop) (T : List ByteArray) (E : List GE) (o : Int) (u : Value) (l : List Int) (w : World) (h : AuX w F pa pg (statesG E T.length o) (stepG E (statesG E T.length o)) 100000) (hg : GA w pg T E) (hL : LightG T.length E) (h0 : 0 ≤ o) (h1 : o < T.length) (hu : RdV w u l) (hok : ∀ x ∈ l, ok64 x) (hll : l.length ≤ 1000000) :
    Calls Tryz.prog 23 #[.pointer (some ⟨pa, 0, none⟩), u] w fun e w' => ∃ v, e = .returned v ∧ RdS w' v (tyG T (ledS E [o] l)) ∧ Below w.heap.size w w' := by
  have hI : StI T.length E o (statesG E T.length o) := states_inv hL.2.1 h0 h1
  have hl : (statesG E T.length o).length ≤ 256 := Nat.le_trans hI.len (Nat.pow_le_pow_right (by decide) hL.2.2)
  refine (arun_any pa pg _ F _ _ T E u l w h hg (fun s hs => by have h := (sm_ok hL.2.2 (hI.sm s hs).1).1; omega) (by have := hL.2.2; omega) (stepG_ok (by omega)) hu hok hll).mono ?_
  rintro e w' ⟨v, S, h1', h2, h3, h4⟩
  rw [run_led hL.2.1 h0 h1 rfl l] at h3
  exact ⟨v, h1', by rw [show S = tyG T (ledS E [o] l) from tyG_eq h3] at h2; exact h2, h4⟩
theorem tyG_len {n : Nat} {E : List GE} {T : List ByteArray} (hR : RightG n E) (hn : n ≤ 8) {o : Int} (h0 : 0 ≤ o) (h1 : o < n) (l : List Int) : (tyG T (ledS E [o] l)).length ≤ 8 := by
  have h := (tyG_is T (ledS E [o] l)).len
  have h2 := (ledS_sm hR l [o] (sm_one h0 h1)).len
  omega
/-- the least word that tells apart: no shorter one does -/
theorem least_short {D : List Int → Prop} {u v : List Int} (h : Least D u) (hv : v.length < u.length) : ¬ D v := fun hd => by
  rcases h.2 v hd with e | e
  · rw [e] at hv; omega
  · rcases e with e | ⟨e, -⟩ <;> omega
set_option maxHeartbeats 16000000 in
set_option maxRecDepth 100000 in
theorem words_law (A : Option Addr) (c : Nat) (T : List ByteArray) (A2 : Option Addr) (c2 : Nat) (E : List GE) (o x : Int) (v : Value) (l : List Int) (w : World) (hTZ : TZ w) (hP : P10 w) (hT : RdT w A T) (hE : RdE w A2 E) (hokE : ∀ a f z, (a, f, z) ∈ E → ok64 f) (hv : RdV w v l) (hokl : ∀ y ∈ l, ok64 y) :
    Calls Tryz.prog 9 #[.agg #[.slice A T.length c, .slice A2 E.length c2], .agg #[.int .i64 o, .int .i64 x], v] w fun e w' => e = .returned (.bool true) ∧ Below w.heap.size w w' := by
  obtain ⟨AV, cV, rfl, hcV, hrV⟩ := hv
  have hmx := hrV.max
  obtain ⟨W1, hW1⟩ : ∃ W, w.alloc (.cells #[.slice A T.length c, .slice A2 E.length c2] 25) = W := ⟨_, rfl⟩
  have hb1 : Below w.heap.size w W1 := by rw [← hW1]; exact below_alloc (Below.refl _ _) _
  have Hb1 : W1.heap[w.heap.size]? = some (.cells #[.slice A T.length c, .slice A2 E.length c2] 25 (0, 0)) := by rw [← hW1]; exact heap_alloc_new _ _
  obtain ⟨g, hg⟩ : ∃ g, w.heap.size = g := ⟨_, rfl⟩
  obtain ⟨g2, hg2⟩ : ∃ g, W1.heap.size = g := ⟨_, rfl⟩
  obtain ⟨W, hW⟩ : ∃ W, W1.alloc (.cells #[.int .i64 o, .int .i64 x] 59) = W := ⟨_, rfl⟩
  have hb2 : Below W1.heap.size W1 W := by rw [← hW]; exact below_alloc (Below.refl _ _) _
  have HBW := Aside0.mk (bel_trans hb1 hb2)
  have Hb := Aside0.mk (Ow.blk_below Hb1 hb2)
  have hbx : W.heap[g2]? = some (.cells #[.int .i64 o, .int .i64 x] 59 (0, 0)) := by rw [← hW, ← hg2]; exact heap_alloc_new _ _
  have b0 : W.cell? ⟨g2, 0, none⟩ = some (.int .i64 o) := blk_cellD hbx 0 _ rfl
  have b1 : W.cell? ⟨g2, 1, none⟩ = some (.int .i64 x) := blk_cellD hbx 1 _ rfl
  rw [hg] at Hb
  have HV := Aside0.mk (RdV.below (v := .slice AV l.length cV) ⟨AV, cV, rfl, hcV, hrV⟩ HBW.out)
  have HAw := Aside0.mk (fun (W' : World) (hb : Below W.heap.size W W') => awake24_any W' (hTZ.below (bel_trans HBW.out hb)) (hP.below (bel_trans HBW.out hb)))
  have HLi := Aside0.mk (fun (W' : World) (hb : Below W.heap.size W W') => light_any A A2 T.length c c2 E W' (hE.below (bel_trans HBW.out hb)))
  have H := Aside0.mk (And.intro (hTZ.below HBW.out) (And.intro (hP.below HBW.out) (And.intro (hT.below HBW.out) (And.intro (hE.below HBW.out) (And.intro hokE hokl)))))
  obtain ⟨nT, hnT⟩ : ∃ nT, T.length = nT := ⟨_, rfl⟩
  obtain ⟨nE, hnE⟩ : ∃ nE, E.length = nE := ⟨_, rfl⟩
  obtain ⟨nl, hnl⟩ : ∃ nl, l.length = nl := ⟨_, rfl⟩
  have Hn := Aside0.mk (And.intro hnT (And.intro hnE hnl))
  rw [hnT, hnE] at hW1 Hb HLi
  rw [hnT, hnE]
  rw [hnl] at HV hmx ⊢
  have hgg : g ≠ g2 := by have := blk_lt Hb1; omega
  clear hTZ hP hT hE hokE hokl hnT hnE hnl hb1 Hb1 hb2 hbx hcV hrV
  go_enter Tryz.func9, Tryz.ntmps9
  go_wp2_with fail
  try simp only [hg, hW1, hg2, hW]
  clear hW hW1 hg2
  go_region
  clear b0 b1
  go_wp2_with fail
  refine (HAw.out _ (below_drew (Below.refl _ _))).mono ?_
  rintro e w1 ⟨rfl, r1⟩
  have HB1 := Aside0.mk (bel_trans (below_drew (Below.refl W.heap.size W)) r1)
  clear r1
  have g0 : w1.cell? ⟨g, 0, none⟩ = some (.slice A nT c) := blk_cellD (Ow.blk_below Hb.out HB1.out) 0 _ rfl
  have g1 : w1.cell? ⟨g, 1, none⟩ = some (.slice A2 nE c2) := blk_cellD (Ow.blk_below Hb.out HB1.out) 1 _ rfl
  go_wp2_with fail
  refine (HLi.out w1 HB1.out).mono ?_
  rintro e w2 ⟨rfl, r1⟩
  have HB2 := Aside0.mk (bel_trans HB1.out r1)
  clear r1 g0 g1
  by_cases hli : LightG nT E
  case neg =>
    have d := decide_eq_false hli
    rw [d]
    clear d hli
    go_wp2_with fail
    refine (HAw.out _ HB2.out).mono ?_
    rintro e wz ⟨rfl, rz⟩
    have HBz := Aside0.mk (bel_trans HBW.out (bel_trans HB2.out rz))
    clear rz
    go_wp2_with fail
    go_ret
    exact ⟨rfl, by have h := HBz.out; first | exact h | (rw [hg] at h; exact h)⟩
  have d := decide_eq_true hli
  rw [d]
  have HL := Aside0.mk hli
  clear d hli
  have g0 : w2.cell? ⟨g, 0, none⟩ = some (.slice A nT c) := blk_cellD (Ow.blk_below Hb.out HB2.out) 0 _ rfl
  have g1 : w2.cell? ⟨g, 1, none⟩ = some (.slice A2 nE c2) := blk_cellD (Ow.blk_below Hb.out HB2.out) 1 _ rfl
  by_cases h0 : 0 ≤ o
  case neg =>
    have e1 : decide (o < 0) = true := decide_eq_true (by omega)
    have e2 : o < 0 := by omega
    clear h0
    go_wp2_with fail
    refine (HAw.out _ HB2.out).mono ?_
    rintro e wz ⟨rfl, rz⟩
    have HBz := Aside0.mk (bel_trans HBW.out (bel_trans HB2.out rz))
    clear rz
    go_wp2_with fail
    go_ret
    exact ⟨rfl, by have h := HBz.out; first | exact h | (rw [hg] at h; exact h)⟩
  have e1 : decide (o < 0) = false := decide_eq_false (by omega)
  by_cases h1 : o < nT
  case neg =>
    have e3 : decide ((nT : Int) ≤ o) = true := decide_eq_true (by omega)
    have e4 : (nT : Int) ≤ o := by omega
    clear h1
    go_wp2_with fail
    refine (HAw.out _ HB2.out).mono ?_
    rintro e wz ⟨rfl, rz⟩
    have HBz := Aside0.mk (bel_trans HBW.out (bel_trans HB2.out rz))
    clear rz
    go_wp2_with fail
    go_ret
    exact ⟨rfl, by have h := HBz.out; first | exact h | (rw [hg] at h; exact h)⟩
  have e3 : decide ((nT : Int) ≤ o) = false := decide_eq_false (by omega)
  have e4 : ¬ (nT : Int) ≤ o := by omega
  by_cases h2 : 0 ≤ x
  case neg =>
    have e5 : decide (x < 0) = true := decide_eq_true (by omega)
    have e6 : x < 0 := by omega
    clear h2
    go_wp2_with fail
    refine (HAw.out _ HB2.out).mono ?_
    rintro e wz ⟨rfl, rz⟩
    have HBz := Aside0.mk (bel_trans HBW.out (bel_trans HB2.out rz))
    clear rz
    go_wp2_with fail
    go_ret
    exact ⟨rfl, by have h := HBz.out; first | exact h | (rw [hg] at h; exact h)⟩
  have e5 : decide (x < 0) = false := decide_eq_false (by omega)
  by_cases h3 : x < nT
  case neg =>
    have e7 : decide ((nT : Int) ≤ x) = true := decide_eq_true (by omega)
    have e8 : (nT : Int) ≤ x := by omega
    clear h3
    go_wp2_with fail
    refine (HAw.out _ HB2.out).mono ?_
    rintro e wz ⟨rfl, rz⟩
    have HBz := Aside0.mk (bel_trans HBW.out (bel_trans HB2.out rz))
    clear rz
    go_wp2_with fail
    go_ret
    exact ⟨rfl, by have h := HBz.out; first | exact h | (rw [hg] at h; exact h)⟩
  have e7 : decide ((nT : Int) ≤ x) = false := decide_eq_false (by omega)
  have e8 : ¬ (nT : Int) ≤ x := by omega
  by_cases h30 : nl ≤ 30
  case neg =>
    have d1 : decide ((30 : Int) < (nl : Int)) = true := decide_eq_true (by omega)
    have d2 : (30 : Int) < (nl : Int) := by omega
    clear h30
    go_wp2_with fail
    refine (HAw.out _ HB2.out).mono ?_
    rintro e wz ⟨rfl, rz⟩
    have HBz := Aside0.mk (bel_trans HBW.out (bel_trans HB2.out rz))
    clear rz
    go_wp2_with fail
    go_ret
    exact ⟨rfl, by have h := HBz.out; first | exact h | (rw [hg] at h; exact h)⟩
  have d1 : decide ((30 : Int) < (nl : Int)) = false := decide_eq_false (by omega)
  have d2 : ¬ (30 : Int) < (nl : Int) := by omega
  have H30 := Aside0.mk h30
  clear h30
  have Ho := Aside0.mk (And.intro (And.intro h0 h1) (And.intro h2 h3))
  have HMo := Aside0.mk (fun (W' : World) (hc : Below w2.heap.size w2 W') => made_any A c T A2 c2 E o W' (H.out.1.below (bel_trans HB2.out hc)) (H.out.2.1.below (bel_trans HB2.out hc)) (H.out.2.2.1.below (bel_trans HB2.out hc)) (H.out.2.2.2.1.below (bel_trans HB2.out hc)) H.out.2.2.2.2.1 (by rw [Hn.out.1]; exact HL.out) Ho.out.1.1 (by rw [Hn.out.1]; exact Ho.out.1.2))
  have HMx := Aside0.mk (fun (W' : World) (hc : Below w2.heap.size w2 W') => made_any A c T A2 c2 E x W' (H.out.1.below (bel_trans HB2.out hc)) (H.out.2.1.below (bel_trans HB2.out hc)) (H.out.2.2.1.below (bel_trans HB2.out hc)) (H.out.2.2.2.1.below (bel_trans HB2.out hc)) H.out.2.2.2.2.1 (by rw [Hn.out.1]; exact HL.out) Ho.out.2.1 (by rw [Hn.out.1]; exact Ho.out.2.2))
  rw [Hn.out.1, Hn.out.2.1] at HMo HMx
  have HBr := Below.refl w2.heap.size w2
  clear h0 h2
  go_wp2_with fail
  go_region_held3 (fun W' => W'.cell? ⟨g, 0, none⟩ = some (.slice A nT c) ∧ W'.cell? ⟨g, 1, none⟩ = some (.slice A2 nE c2) ∧ Below w2.heap.size w2 W') (first | (refine ⟨pw_cell_below (w := w2) ?_ g0, pw_cell_below (w := w2) ?_ g1, ?_⟩ <;> simp [*]) | go_keep)
    (first
      | (go_at_call 38; (with_reducible refine (HMo.out _ (by simp [*])).mono ?_); rintro e w3 ⟨pa, pga, Fa, rfl, r1, r2, r3⟩; have HX0 := Aside0.mk (And.intro r1 r2); have HB9 := bel_trans (wb := w2) (by simp [*]) r3; clear r1 r2 r3)
      | (go_at_call 38; (with_reducible refine (HMx.out _ (by simp [*])).mono ?_); rintro e w3 ⟨pb, pgb, Fb, rfl, r1, r2, r3⟩; have HX0 := Aside0.mk (And.intro (HX0.out.1.below r3) (HX0.out.2.below r3)); have HX1 := Aside0.mk (And.intro r1 r2); have HB9 := bel_trans (wb := w2) (by simp [*]) r3; clear r1 r2 r3)
      | fail)
  rename_i hHeld
  have HB3 := Aside0.mk (bel_trans HB2.out HB9)
  have HAp := Aside0.mk (fun (W' : World) (hc : Below w3.heap.size w3 W') => eapart_any pa pb pga pgb 100000 100000 T.length Fa Fb _ _ T E o x W' (HX0.out.1.below hc) (HX1.out.1.below hc) (HX0.out.2.below hc) (HX1.out.2.below hc) rfl (by rw [Hn.out.1]; exact HL.out.2.2) HL.out.1.2 (by rw [Hn.out.1]; exact HL.out.2.1) H.out.2.2.2.2.1 Ho.out.1.1 (by rw [Hn.out.1]; exact Ho.out.1.2) Ho.out.2.1 (by rw [Hn.out.1]; exact Ho.out.2.2) rfl rfl)
  have HSm := Aside0.mk (esame_any pa pb pga pgb 100000 100000 T.length Fa Fb _ _ T E o x w3 HX0.out.1 HX1.out.1 HX0.out.2 HX1.out.2 rfl (by rw [Hn.out.1]; exact HL.out.2.2) HL.out.1.2 (by rw [Hn.out.1]; exact HL.out.2.1) H.out.2.2.2.2.1 Ho.out.1.1 (by rw [Hn.out.1]; exact Ho.out.1.2) Ho.out.2.1 (by rw [Hn.out.1]; exact Ho.out.2.2) rfl rfl)
  have HRo := Aside0.mk (fun (W' : World) (hc : Below w3.heap.size w3 W') (u : Value) (m : List Int) (hu : RdV W' u m) (hok : ∀ y ∈ m, ok64 y) (hml : m.length ≤ 1000) => arun_ty pa pga Fa T E o u m W' (HX0.out.1.below hc) (HX0.out.2.below hc) (by rw [Hn.out.1]; exact HL.out) Ho.out.1.1 (by rw [Hn.out.1]; exact Ho.out.1.2) hu hok (by omega))
  have HRx := Aside0.mk (fun (W' : World) (hc : Below w3.heap.size w3 W') (u : Value) (m : List Int) (hu : RdV W' u m) (hok : ∀ y ∈ m, ok64 y) (hml : m.length ≤ 1000) => arun_ty pb pgb Fb T E x u m W' (HX1.out.1.below hc) (HX1.out.2.below hc) (by rw [Hn.out.1]; exact HL.out) Ho.out.2.1 (by rw [Hn.out.1]; exact Ho.out.2.2) hu hok (by omega))
  have HTx := Aside0.mk (fun (W' : World) (m : List Int) (u1 u2 : Value) (h1 : RdS W' u1 (tyG T (ledS E [o] m))) (h2 : RdS W' u2 (tyG T (ledS E [x] m))) => texts_any u1 u2 _ _ W' h1 h2 (by have := tyG_len (T := T) HL.out.2.1 HL.out.2.2 Ho.out.1.1 Ho.out.1.2 m; omega))
  clear hHeld HB9 HX0 HX1 g0 g1 HBr HMo HMx
  go_wp2_with fail
  refine HSm.out.mono ?_
  rintro e w4 ⟨⟨B, rfl, hB⟩, r1⟩
  have HB4 := Aside0.mk r1
  have HBq := Aside0.mk hB
  clear r1 HSm hB
  cases B with
  | true =>
    have HEq := Aside0.mk (fun (W' : World) (u1 u2 : Value) (h1 : RdS W' u1 (tyG T (ledS E [o] l))) (h2 : RdS W' u2 (tyG T (ledS E [x] l))) => (show Calls Tryz.prog 22 #[u1, u2] W' (fun e w' => e = .returned (.bool true) ∧ Below W'.heap.size W' w') from by
      have h := HTx.out W' l u1 u2 h1 h2
      rewrite [decide_eq_true (show tyG T (ledS E [o] l) = tyG T (ledS E [x] l) from Classical.byContradiction (fun hd => (HBq.out.1 rfl l) hd))] at h
      exact h))
    have RR := Aside0.mk (fun (W' : World) (hc : Below w4.heap.size w4 W') => ((HV.out.below HB3.out).below HB4.out).below hc)
    have RL := Aside0.mk (show l.length ≤ 1000 by have := Hn.out.2.2; have := H30.out; omega)
    go_wp2_with fail
    refine (HRo.out w4 HB4.out _ _ (RR.out _ (Below.refl _ _)) H.out.2.2.2.2.2 RL.out).mono ?_
    rintro e w5 ⟨u5, rfl, r1, r2⟩
    have HB5 := Aside0.mk r2
    have HX5 := Aside0.mk r1
    clear r1 r2
    go_wp2_with fail
    refine (HRx.out w5 (bel_trans HB4.out HB5.out) _ _ (RR.out _ HB5.out) H.out.2.2.2.2.2 RL.out).mono ?_
    rintro e w6 ⟨u6, rfl, r1, r2⟩
    have HB6 := Aside0.mk (bel_trans HB5.out r2)
    have HE6 := Aside0.mk (HEq.out w6 _ _ (HX5.out.below r2) r1)
    clear r1 r2
    go_wp2_with fail
    refine HE6.out.mono ?_
    rintro e w7 ⟨rfl, r2⟩
    have HB7 := Aside0.mk (bel_trans HBW.out (bel_trans HB3.out (bel_trans HB4.out (bel_trans HB6.out r2))))
    clear r2
    go_wp2_with fail
    go_ret
    exact ⟨rfl, by have h := HB7.out; first | exact h | (rw [hg] at h; exact h)⟩
  | false =>
  have HB34 := Aside0.mk (bel_trans HB3.out HB4.out)
  have HAp4 := Aside0.mk (HAp.out w4 HB4.out)
  have HBf := Aside0.mk (show ¬ ∀ v, ¬ Df T E [o] [x] v from fun h => by have := HBq.out.2 h; cases this)
  clear HAp HBq
  go_wp2_with fail
  refine HAp4.out.mono ?_
  rintro e w4' ⟨r1, ⟨u, wd, rfl, r2, r3, r4, r5⟩ | ⟨-, r2⟩⟩
  case inr => exact absurd r2 HBf.out
  obtain ⟨xA, xc, rfl, hxc, hxr⟩ := r2
  have HB5 := Aside0.mk (bel_trans HB4.out r1)
  have hr2 : RdV w4' (.slice xA wd.length xc) wd := ⟨xA, xc, rfl, hxc, hxr⟩
  have HWd := Aside0.mk (And.intro hr2 (And.intro r3 (And.intro r4 r5)))
  have HRo := Aside0.mk (fun (W' : World) (hc : Below w4'.heap.size w4' W') => HRo.out W' (bel_trans HB5.out hc))
  have HRx := Aside0.mk (fun (W' : World) (hc : Below w4'.heap.size w4' W') => HRx.out W' (bel_trans HB5.out hc))
  have HNe := Aside0.mk (fun (W' : World) (u1 u2 : Value) (h1 : RdS W' u1 (tyG T (ledS E [o] wd))) (h2 : RdS W' u2 (tyG T (ledS E [x] wd))) => (show Calls Tryz.prog 22 #[u1, u2] W' (fun e w' => e = .returned (.bool false) ∧ Below W'.heap.size W' w') from by
    have h := HTx.out W' wd u1 u2 h1 h2
    rewrite [decide_eq_false (show ¬ tyG T (ledS E [o] wd) = tyG T (ledS E [x] wd) from HWd.out.2.2.2.1)] at h
    exact h))
  have RR := Aside0.mk (fun (W' : World) (hc : Below w4'.heap.size w4' W') => HWd.out.1.below hc)
  have RO := Aside0.mk HWd.out.2.1
  have RL := Aside0.mk HWd.out.2.2.1
  rename World => w4
  have HBr := Below.refl w4.heap.size w4
  clear HAp4 HBf r1 r3 r4 r5 hxc hxr hr2
  obtain ⟨wl, hwl⟩ : ∃ k, wd.length = k := ⟨_, rfl⟩
  cases wl with
  | zero =>
    rw [hwl] at RR
    rw [hwl]
    go_wp2_with fail
    refine wp_region_held_drew (S := (fun W' => Below w4.heap.size w4 W')) (by kernel_rfl) ?_ (fun hHeld => ?_)
    · exact below_drew HBr
    refine wpAnyH_take (i := 0) (oi := _) (v := ?_) (List.getElem?_toArray.trans rfl) (by kernel_rfl) (by kernel_rfl) (by kernel_rfl) (fun _ _ _ h => h) (Or.inl ⟨by rfl, ?_⟩) (by assumption) ?_
    rotate_left
    · intro w hSw; (try dsimp only at hSw); go_simp <;> with_reducible rfl
    try simp only [Act.put, List.setIfInBounds_toArray, List.set_cons_zero, List.set_cons_succ]
    refine wpAnyH_take (i := 1) (oi := _) (v := ?_) (List.getElem?_toArray.trans rfl) (by kernel_rfl) (by kernel_rfl) (by kernel_rfl) (fun _ _ _ h => h) (Or.inl ⟨by rfl, ?_⟩) (by assumption) ?_
    rotate_left
    · intro w hSw; (try dsimp only at hSw); go_simp <;> with_reducible rfl
    try simp only [Act.put, List.setIfInBounds_toArray, List.set_cons_zero, List.set_cons_succ]
    refine wpAnyH_take (i := 2) (oi := _) (v := ?_) (List.getElem?_toArray.trans rfl) (by kernel_rfl) (by kernel_rfl) (by kernel_rfl) (fun _ _ _ h => h) (Or.inl ⟨by rfl, ?_⟩) (by assumption) ?_
    rotate_left
    · intro w hSw; (try dsimp only at hSw); go_simp <;> with_reducible rfl
    try simp only [Act.put, List.setIfInBounds_toArray, List.set_cons_zero, List.set_cons_succ]
    refine wpAnyH_take (i := 3) (oi := _) (v := ?_) (List.getElem?_toArray.trans rfl) (by kernel_rfl) (by kernel_rfl) (by kernel_rfl) (fun _ _ _ h => h) (Or.inl ⟨by rfl, ?_⟩) (by assumption) ?_
    rotate_left
    · intro w hSw; (try dsimp only at hSw); go_simp <;> with_reducible rfl
    try simp only [Act.put, List.setIfInBounds_toArray, List.set_cons_zero, List.set_cons_succ]
    refine wpAnyH_take (i := 5) (oi := _) (v := ?_) (List.getElem?_toArray.trans rfl) (by kernel_rfl) (by kernel_rfl) (by kernel_rfl) (fun _ _ _ h => h) (Or.inl ⟨by rfl, ?_⟩) (by assumption) ?_
    rotate_left
    · intro w hSw; (try dsimp only at hSw); go_simp <;> with_reducible rfl
    try simp only [Act.put, List.setIfInBounds_toArray, List.set_cons_zero, List.set_cons_succ]
    refine wpAnyH_take (i := 6) (oi := _) (v := ?_) (List.getElem?_toArray.trans rfl) (by kernel_rfl) (by kernel_rfl) (by kernel_rfl) (fun _ _ _ h => h) (Or.inl ⟨by rfl, ?_⟩) (by assumption) ?_
    rotate_left
    · intro w hSw; (try dsimp only at hSw); go_simp <;> with_reducible rfl
    try simp only [Act.put, List.setIfInBounds_toArray, List.set_cons_zero, List.set_cons_succ]
    refine wpAnyH_ready (rs := [4]) (by kernel_rfl) (by simp) ?_
    refine AllReadyH.cons (o := _) (List.getElem?_toArray.trans rfl) (fun K hK => ?_) AllReadyH.nil
    go_simp
    (go_at_call 23; (with_reducible refine (HRo.out _ (below_drew HBr) _ _ (RR.out _ (below_drew HBr)) RO.out RL.out).mono ?_); rintro e w5 ⟨uw5, rfl, r1, r2⟩; have HXw5 := Aside0.mk r1; have HB9 := bel_trans (wb := w4) (below_drew HBr) r2; clear r1 r2)
    refine hK.out _ _ ?_ (fun hHeld => ?_)
    · exact HB9
    clear hK K
    try simp only [Act.put, List.setIfInBounds_toArray, List.set_cons_zero, List.set_cons_succ]
    refine wpAnyH_ready (rs := [7]) (by kernel_rfl) (by simp) ?_
    refine AllReadyH.cons (o := _) (List.getElem?_toArray.trans rfl) (fun K hK => ?_) AllReadyH.nil
    go_simp
    (go_at_call 23; (with_reducible refine (HRx.out _ HB9 _ _ (RR.out _ HB9) RO.out RL.out).mono ?_); rintro e w6 ⟨uw6, rfl, r1, r2⟩; have HXw5 := Aside0.mk (HXw5.out.below r2); have HXw6 := Aside0.mk r1; have HB9 := bel_trans (wb := w4) HB9 r2; clear r1 r2)
    refine hK.out _ _ ?_ (fun hHeld => ?_)
    · exact HB9
    clear hK K
    try simp only [Act.put, List.setIfInBounds_toArray, List.set_cons_zero, List.set_cons_succ]
    refine wpAnyH_ready (rs := [8]) (by kernel_rfl) (by simp) ?_
    refine AllReadyH.cons (o := _) (List.getElem?_toArray.trans rfl) (fun K hK => ?_) AllReadyH.nil
    go_simp
    (go_at_call 22; (with_reducible refine (HNe.out _ _ _ HXw5.out HXw6.out).mono ?_); rintro e w7 ⟨rfl, r2⟩; have HB9 := bel_trans (wb := w4) HB9 r2; clear r2)
    refine hK.out _ _ ?_ (fun hHeld => ?_)
    · exact HB9
    clear hK K
    try simp only [Act.put, List.setIfInBounds_toArray, List.set_cons_zero, List.set_cons_succ]
    refine wpAnyH_take (i := 9) (oi := _) (v := ?_) (List.getElem?_toArray.trans rfl) (by kernel_rfl) (by kernel_rfl) (by kernel_rfl) (fun _ _ _ h => h) (Or.inl ⟨by rfl, ?_⟩) (by assumption) ?_
    rotate_left
    · intro w hSw; (try dsimp only at hSw); go_simp <;> with_reducible rfl
    try simp only [Act.put, List.setIfInBounds_toArray, List.set_cons_zero, List.set_cons_succ]
    refine wpAnyH_take (i := 10) (oi := _) (v := ?_) (List.getElem?_toArray.trans rfl) (by kernel_rfl) (by kernel_rfl) (by kernel_rfl) (fun _ _ _ h => h) (Or.inl ⟨by rfl, ?_⟩) (by assumption) ?_
    rotate_left
    · intro w hSw; (try dsimp only at hSw); go_simp <;> with_reducible rfl
    try simp only [Act.put, List.setIfInBounds_toArray, List.set_cons_zero, List.set_cons_succ]
    refine wpAnyH_take (i := 11) (oi := _) (v := ?_) (List.getElem?_toArray.trans rfl) (by kernel_rfl) (by kernel_rfl) (by kernel_rfl) (fun _ _ _ h => h) (Or.inl ⟨by rfl, ?_⟩) (by assumption) ?_
    rotate_left
    · intro w hSw; (try dsimp only at hSw); go_simp <;> with_reducible rfl
    try simp only [Act.put, List.setIfInBounds_toArray, List.set_cons_zero, List.set_cons_succ]
    refine wpAnyH_take (i := 12) (oi := _) (v := ?_) (List.getElem?_toArray.trans rfl) (by kernel_rfl) (by kernel_rfl) (by kernel_rfl) (fun _ _ _ h => h) (Or.inl ⟨by rfl, ?_⟩) (by assumption) ?_
    rotate_left
    · intro w hSw; (try dsimp only at hSw); go_simp <;> with_reducible rfl
    try simp only [Act.put, List.setIfInBounds_toArray, List.set_cons_zero, List.set_cons_succ]
    refine wpAnyH_take (i := 13) (oi := _) (v := ?_) (List.getElem?_toArray.trans rfl) (by kernel_rfl) (by kernel_rfl) (by kernel_rfl) (fun _ _ _ h => h) (Or.inl ⟨by rfl, ?_⟩) (by assumption) ?_
    rotate_left
    · intro w hSw; (try dsimp only at hSw); go_simp <;> with_reducible rfl
    try simp only [Act.put, List.setIfInBounds_toArray, List.set_cons_zero, List.set_cons_succ]
    refine wpAnyH_take (i := 14) (oi := _) (v := ?_) (List.getElem?_toArray.trans rfl) (by kernel_rfl) (by kernel_rfl) (by kernel_rfl) (fun _ _ _ h => h) (Or.inl ⟨by rfl, ?_⟩) (by assumption) ?_
    rotate_left
    · intro w hSw; (try dsimp only at hSw); go_simp <;> with_reducible rfl
    try simp only [Act.put, List.setIfInBounds_toArray, List.set_cons_zero, List.set_cons_succ]
    refine wpAnyH_take (i := 15) (oi := _) (v := ?_) (List.getElem?_toArray.trans rfl) (by kernel_rfl) (by kernel_rfl) (by kernel_rfl) (fun _ _ _ h => h) (Or.inl ⟨by rfl, ?_⟩) (by assumption) ?_
    rotate_left
    · intro w hSw; (try dsimp only at hSw); go_simp <;> with_reducible rfl
    try simp only [Act.put, List.setIfInBounds_toArray, List.set_cons_zero, List.set_cons_succ]
    refine wpAnyH_take (i := 16) (oi := _) (v := undef) (List.getElem?_toArray.trans rfl) (by kernel_rfl) (by kernel_rfl) (by kernel_rfl) (fun _ _ _ h => h) (Or.inr ⟨by rfl, rfl⟩) (by assumption) ?_
    try simp only [Act.put, List.setIfInBounds_toArray, List.set_cons_zero, List.set_cons_succ]
    refine wpAnyH_take (i := 17) (oi := _) (v := undef) (List.getElem?_toArray.trans rfl) (by kernel_rfl) (by kernel_rfl) (by kernel_rfl) (fun _ _ _ h => h) (Or.inr ⟨by rfl, rfl⟩) (by assumption) ?_
    try simp only [Act.put, List.setIfInBounds_toArray, List.set_cons_zero, List.set_cons_succ]
    refine wpAnyH_take (i := 18) (oi := _) (v := undef) (List.getElem?_toArray.trans rfl) (by kernel_rfl) (by kernel_rfl) (by kernel_rfl) (fun _ _ _ h => h) (Or.inr ⟨by rfl, rfl⟩) (by assumption) ?_
    try simp only [Act.put, List.setIfInBounds_toArray, List.set_cons_zero, List.set_cons_succ]
    refine wpAnyH_take (i := 19) (oi := _) (v := undef) (List.getElem?_toArray.trans rfl) (by kernel_rfl) (by kernel_rfl) (by kernel_rfl) (fun _ _ _ h => h) (Or.inr ⟨by rfl, rfl⟩) (by assumption) ?_
    try simp only [Act.put, List.setIfInBounds_toArray, List.set_cons_zero, List.set_cons_succ]
    refine wpAnyH_take (i := 20) (oi := _) (v := undef) (List.getElem?_toArray.trans rfl) (by kernel_rfl) (by kernel_rfl) (by kernel_rfl) (fun _ _ _ h => h) (Or.inr ⟨by rfl, rfl⟩) (by assumption) ?_
    try simp only [Act.put, List.setIfInBounds_toArray, List.set_cons_zero, List.set_cons_succ]
    refine wpAnyH_take (i := 21) (oi := _) (v := undef) (List.getElem?_toArray.trans rfl) (by kernel_rfl) (by kernel_rfl) (by kernel_rfl) (fun _ _ _ h => h) (Or.inr ⟨by rfl, rfl⟩) (by assumption) ?_
    try simp only [Act.put, List.setIfInBounds_toArray, List.set_cons_zero, List.set_cons_succ]
    refine wpAnyH_take (i := 22) (oi := _) (v := undef) (List.getElem?_toArray.trans rfl) (by kernel_rfl) (by kernel_rfl) (by kernel_rfl) (fun _ _ _ h => h) (Or.inr ⟨by rfl, rfl⟩) (by assumption) ?_
    try simp only [Act.put, List.setIfInBounds_toArray, List.set_cons_zero, List.set_cons_succ]
    refine wpAnyH_take (i := 23) (oi := _) (v := undef) (List.getElem?_toArray.trans rfl) (by kernel_rfl) (by kernel_rfl) (by kernel_rfl) (fun _ _ _ h => h) (Or.inr ⟨by rfl, rfl⟩) (by assumption) ?_
    try simp only [Act.put, List.setIfInBounds_toArray, List.set_cons_zero, List.set_cons_succ]
    refine wpAnyH_take (i := 24) (oi := _) (v := undef) (List.getElem?_toArray.trans rfl) (by kernel_rfl) (by kernel_rfl) (by kernel_rfl) (fun _ _ _ h => h) (Or.inr ⟨by rfl, rfl⟩) (by assumption) ?_
    try simp only [Act.put, List.setIfInBounds_toArray, List.set_cons_zero, List.set_cons_succ]
    refine wpAnyH_take (i := 25) (oi := _) (v := undef) (List.getElem?_toArray.trans rfl) (by kernel_rfl) (by kernel_rfl) (by kernel_rfl) (fun _ _ _ h => h) (Or.inr ⟨by rfl, rfl⟩) (by assumption) ?_
    try simp only [Act.put, List.setIfInBounds_toArray, List.set_cons_zero, List.set_cons_succ]
    refine wpAnyH_take (i := 26) (oi := _) (v := undef) (List.getElem?_toArray.trans rfl) (by kernel_rfl) (by kernel_rfl) (by kernel_rfl) (fun _ _ _ h => h) (Or.inr ⟨by rfl, rfl⟩) (by assumption) ?_
    try simp only [Act.put, List.setIfInBounds_toArray, List.set_cons_zero, List.set_cons_succ]
    refine wpAnyH_take (i := 27) (oi := _) (v := undef) (List.getElem?_toArray.trans rfl) (by kernel_rfl) (by kernel_rfl) (by kernel_rfl) (fun _ _ _ h => h) (Or.inr ⟨by rfl, rfl⟩) (by assumption) ?_
    try simp only [Act.put, List.setIfInBounds_toArray, List.set_cons_zero, List.set_cons_succ]
    refine wpAnyH_take (i := 28) (oi := _) (v := undef) (List.getElem?_toArray.trans rfl) (by kernel_rfl) (by kernel_rfl) (by kernel_rfl) (fun _ _ _ h => h) (Or.inr ⟨by rfl, rfl⟩) (by assumption) ?_
    try simp only [Act.put, List.setIfInBounds_toArray, List.set_cons_zero, List.set_cons_succ]
    refine wpAnyH_take (i := 29) (oi := _) (v := undef) (List.getElem?_toArray.trans rfl) (by kernel_rfl) (by kernel_rfl) (by kernel_rfl) (fun _ _ _ h => h) (Or.inr ⟨by rfl, rfl⟩) (by assumption) ?_
    try simp only [Act.put, List.setIfInBounds_toArray, List.set_cons_zero, List.set_cons_succ]
    refine wpAnyH_take (i := 30) (oi := _) (v := undef) (List.getElem?_toArray.trans rfl) (by kernel_rfl) (by kernel_rfl) (by kernel_rfl) (fun _ _ _ h => h) (Or.inr ⟨by rfl, rfl⟩) (by assumption) ?_
    try simp only [Act.put, List.setIfInBounds_toArray, List.set_cons_zero, List.set_cons_succ]
    refine wpAnyH_take (i := 31) (oi := _) (v := ?_) (List.getElem?_toArray.trans rfl) (by kernel_rfl) (by kernel_rfl) (by kernel_rfl) (fun _ _ _ h => h) (Or.inl ⟨by rfl, ?_⟩) (by assumption) ?_
    rotate_left
    · intro w hSw; (try dsimp only at hSw); go_simp <;> with_reducible rfl
    try simp only [Act.put, List.setIfInBounds_toArray, List.set_cons_zero, List.set_cons_succ]
    refine wpAnyH_take (i := 32) (oi := _) (v := ?_) (List.getElem?_toArray.trans rfl) (by kernel_rfl) (by kernel_rfl) (by kernel_rfl) (fun _ _ _ h => h) (Or.inl ⟨by rfl, ?_⟩) (by assumption) ?_
    rotate_left
    · intro w hSw; (try dsimp only at hSw); go_simp <;> with_reducible rfl
    try simp only [Act.put, List.setIfInBounds_toArray, List.set_cons_zero, List.set_cons_succ]
    refine wpAnyH_take (i := 33) (oi := _) (v := ?_) (List.getElem?_toArray.trans rfl) (by kernel_rfl) (by kernel_rfl) (by kernel_rfl) (fun _ _ _ h => h) (Or.inl ⟨by rfl, ?_⟩) (by assumption) ?_
    rotate_left
    · intro w hSw; (try dsimp only at hSw); go_simp <;> with_reducible rfl
    try simp only [Act.put, List.setIfInBounds_toArray, List.set_cons_zero, List.set_cons_succ]
    refine wpAnyH_done (by kernel_rfl) ?_ _
    go_wp2_with fail
    go_ret
    exact ⟨rfl, by have h := bel_trans HBW.out (bel_trans HB3.out (bel_trans HB5.out HB9)); first | exact h | (rw [hg] at h; exact h)⟩
  | succ m =>
    have hm1 : m ≤ wd.length := by omega
    obtain ⟨hcut, hrd⟩ := cut_front HWd.out.1 hm1
    have hlt : (wd.take m).length < wd.length := by rw [List.length_take]; omega
    have hsame := least_short HWd.out.2.2.2 hlt
    have HEq := Aside0.mk (fun (W' : World) (u1 u2 : Value) (h1 : RdS W' u1 (tyG T (ledS E [o] (wd.take m)))) (h2 : RdS W' u2 (tyG T (ledS E [x] (wd.take m)))) => (show Calls Tryz.prog 22 #[u1, u2] W' (fun e w' => e = .returned (.bool true) ∧ Below W'.heap.size W' w') from by
      have h := HTx.out W' (wd.take m) u1 u2 h1 h2
      rewrite [decide_eq_true (show tyG T (ledS E [o] (wd.take m)) = tyG T (ledS E [x] (wd.take m)) from Classical.byContradiction (fun hd => hsame hd))] at h
      exact h))
    have RRp := Aside0.mk (fun (W' : World) (hc : Below w4.heap.size w4 W') => hrd.below hc)
    have ROp := Aside0.mk (fun y (hy : y ∈ wd.take m) => HWd.out.2.1 y (List.mem_of_mem_take hy))
    have RLp := Aside0.mk (show (wd.take m).length ≤ 1000 by have := HWd.out.2.2.1; omega)
    have hm2 : m ≤ 1000 := by have := HWd.out.2.2.1; omega
    have hw : IntKind.i64.wrap (m : Int) = (m : Int) := by have := wrap_add (m := m) (n := 0) (by omega); simpa using this
    have hw0 : (0 : Int) ≤ (m : Int) := by omega
    have hw1 : (m : Int) ≤ (xc : Int) := by
      obtain ⟨A', c', e, hc', -⟩ := HWd.out.1
      injection e with ea eb ec
      omega
    rw [hwl] at RR hcut
    rw [hwl]
    have q1 : (((m + 1 : Nat) : Int) == 0) = false := by rw [beq_eq_false_iff_ne]; omega
    have q2 : ¬ ((m + 1 : Nat) : Int) = 0 := by omega
    have q3 : ¬ (m : Int) + 1 = 0 := by omega
    have q4 : ((m : Int) + 1 == 0) = false := by rw [beq_eq_false_iff_ne]; omega
    clear hm1 hrd hlt hsame
    replace hw0 := eq_true hw0
    replace hw1 := eq_true hw1
    go_wp2_with fail
    refine wp_region_held_drew (S := (fun W' => Below w4.heap.size w4 W')) (by kernel_rfl) ?_ (fun hHeld => ?_)
    · exact below_drew HBr
    refine wpAnyH_take (i := 0) (oi := _) (v := ?_) (List.getElem?_toArray.trans rfl) (by kernel_rfl) (by kernel_rfl) (by kernel_rfl) (fun _ _ _ h => h) (Or.inl ⟨by rfl, ?_⟩) (by assumption) ?_
    rotate_left
    · intro w hSw; (try dsimp only at hSw); go_simp <;> with_reducible rfl
    try simp only [Act.put, List.setIfInBounds_toArray, List.set_cons_zero, List.set_cons_succ]
    refine wpAnyH_take (i := 1) (oi := _) (v := ?_) (List.getElem?_toArray.trans rfl) (by kernel_rfl) (by kernel_rfl) (by kernel_rfl) (fun _ _ _ h => h) (Or.inl ⟨by rfl, ?_⟩) (by assumption) ?_
    rotate_left
    · intro w hSw; (try dsimp only at hSw); go_simp <;> with_reducible rfl
    try simp only [Act.put, List.setIfInBounds_toArray, List.set_cons_zero, List.set_cons_succ]
    refine wpAnyH_take (i := 2) (oi := _) (v := ?_) (List.getElem?_toArray.trans rfl) (by kernel_rfl) (by kernel_rfl) (by kernel_rfl) (fun _ _ _ h => h) (Or.inl ⟨by rfl, ?_⟩) (by assumption) ?_
    rotate_left
    · intro w hSw; (try dsimp only at hSw); go_simp <;> with_reducible rfl
    try simp only [Act.put, List.setIfInBounds_toArray, List.set_cons_zero, List.set_cons_succ]
    refine wpAnyH_take (i := 3) (oi := _) (v := ?_) (List.getElem?_toArray.trans rfl) (by kernel_rfl) (by kernel_rfl) (by kernel_rfl) (fun _ _ _ h => h) (Or.inl ⟨by rfl, ?_⟩) (by assumption) ?_
    rotate_left
    · intro w hSw; (try dsimp only at hSw); go_simp <;> with_reducible rfl
    try simp only [Act.put, List.setIfInBounds_toArray, List.set_cons_zero, List.set_cons_succ]
    refine wpAnyH_take (i := 5) (oi := _) (v := ?_) (List.getElem?_toArray.trans rfl) (by kernel_rfl) (by kernel_rfl) (by kernel_rfl) (fun _ _ _ h => h) (Or.inl ⟨by rfl, ?_⟩) (by assumption) ?_
    rotate_left
    · intro w hSw; (try dsimp only at hSw); go_simp <;> with_reducible rfl
    try simp only [Act.put, List.setIfInBounds_toArray, List.set_cons_zero, List.set_cons_succ]
    refine wpAnyH_take (i := 6) (oi := _) (v := ?_) (List.getElem?_toArray.trans rfl) (by kernel_rfl) (by kernel_rfl) (by kernel_rfl) (fun _ _ _ h => h) (Or.inl ⟨by rfl, ?_⟩) (by assumption) ?_
    rotate_left
    · intro w hSw; (try dsimp only at hSw); go_simp <;> with_reducible rfl
    try simp only [Act.put, List.setIfInBounds_toArray, List.set_cons_zero, List.set_cons_succ]
    refine wpAnyH_ready (rs := [4]) (by kernel_rfl) (by simp) ?_
    refine AllReadyH.cons (o := _) (List.getElem?_toArray.trans rfl) (fun K hK => ?_) AllReadyH.nil
    go_simp
    (go_at_call 23; (with_reducible refine (HRo.out _ (below_drew HBr) _ _ (RR.out _ (below_drew HBr)) RO.out RL.out).mono ?_); rintro e w5 ⟨uw5, rfl, r1, r2⟩; have HXw5 := Aside0.mk r1; have HB9 := bel_trans (wb := w4) (below_drew HBr) r2; clear r1 r2)
    refine hK.out _ _ ?_ (fun hHeld => ?_)
    · exact HB9
    clear hK K
    try simp only [Act.put, List.setIfInBounds_toArray, List.set_cons_zero, List.set_cons_succ]
    refine wpAnyH_ready (rs := [7]) (by kernel_rfl) (by simp) ?_
    refine AllReadyH.cons (o := _) (List.getElem?_toArray.trans rfl) (fun K hK => ?_) AllReadyH.nil
    go_simp
    (go_at_call 23; (with_reducible refine (HRx.out _ HB9 _ _ (RR.out _ HB9) RO.out RL.out).mono ?_); rintro e w6 ⟨uw6, rfl, r1, r2⟩; have HXw5 := Aside0.mk (HXw5.out.below r2); have HXw6 := Aside0.mk r1; have HB9 := bel_trans (wb := w4) HB9 r2; clear r1 r2)
    refine hK.out _ _ ?_ (fun hHeld => ?_)
    · exact HB9
    clear hK K
    try simp only [Act.put, List.setIfInBounds_toArray, List.set_cons_zero, List.set_cons_succ]
    refine wpAnyH_ready (rs := [8]) (by kernel_rfl) (by simp) ?_
    refine AllReadyH.cons (o := _) (List.getElem?_toArray.trans rfl) (fun K hK => ?_) AllReadyH.nil
    go_simp
    (go_at_call 22; (with_reducible refine (HNe.out _ _ _ HXw5.out HXw6.out).mono ?_); rintro e w7 ⟨rfl, r2⟩; have HB9 := bel_trans (wb := w4) HB9 r2; clear r2)
    refine hK.out _ _ ?_ (fun hHeld => ?_)
    · exact HB9
    clear hK K
    try simp only [Act.put, List.setIfInBounds_toArray, List.set_cons_zero, List.set_cons_succ]
    refine wpAnyH_take (i := 9) (oi := _) (v := ?_) (List.getElem?_toArray.trans rfl) (by kernel_rfl) (by kernel_rfl) (by kernel_rfl) (fun _ _ _ h => h) (Or.inl ⟨by rfl, ?_⟩) (by assumption) ?_
    rotate_left
    · intro w hSw; (try dsimp only at hSw); go_simp <;> with_reducible rfl
    try simp only [Act.put, List.setIfInBounds_toArray, List.set_cons_zero, List.set_cons_succ]
    refine wpAnyH_take (i := 10) (oi := _) (v := ?_) (List.getElem?_toArray.trans rfl) (by kernel_rfl) (by kernel_rfl) (by kernel_rfl) (fun _ _ _ h => h) (Or.inl ⟨by rfl, ?_⟩) (by assumption) ?_
    rotate_left
    · intro w hSw; (try dsimp only at hSw); go_simp <;> with_reducible rfl
    try simp only [Act.put, List.setIfInBounds_toArray, List.set_cons_zero, List.set_cons_succ]
    refine wpAnyH_take (i := 11) (oi := _) (v := ?_) (List.getElem?_toArray.trans rfl) (by kernel_rfl) (by kernel_rfl) (by kernel_rfl) (fun _ _ _ h => h) (Or.inl ⟨by rfl, ?_⟩) (by assumption) ?_
    rotate_left
    · intro w hSw; (try dsimp only at hSw); go_simp <;> with_reducible rfl
    try simp only [Act.put, List.setIfInBounds_toArray, List.set_cons_zero, List.set_cons_succ]
    refine wpAnyH_take (i := 12) (oi := _) (v := ?_) (List.getElem?_toArray.trans rfl) (by kernel_rfl) (by kernel_rfl) (by kernel_rfl) (fun _ _ _ h => h) (Or.inl ⟨by rfl, ?_⟩) (by assumption) ?_
    rotate_left
    · intro w hSw; (try dsimp only at hSw); go_simp <;> with_reducible rfl
    try simp only [Act.put, List.setIfInBounds_toArray, List.set_cons_zero, List.set_cons_succ]
    refine wpAnyH_take (i := 13) (oi := _) (v := ?_) (List.getElem?_toArray.trans rfl) (by kernel_rfl) (by kernel_rfl) (by kernel_rfl) (fun _ _ _ h => h) (Or.inl ⟨by rfl, ?_⟩) (by assumption) ?_
    rotate_left
    · intro w hSw; (try dsimp only at hSw); go_simp <;> with_reducible rfl
    try simp only [Act.put, List.setIfInBounds_toArray, List.set_cons_zero, List.set_cons_succ]
    refine wpAnyH_take (i := 14) (oi := _) (v := ?_) (List.getElem?_toArray.trans rfl) (by kernel_rfl) (by kernel_rfl) (by kernel_rfl) (fun _ _ _ h => h) (Or.inl ⟨by rfl, ?_⟩) (by assumption) ?_
    rotate_left
    · intro w hSw; (try dsimp only at hSw); go_simp <;> with_reducible rfl
    try simp only [Act.put, List.setIfInBounds_toArray, List.set_cons_zero, List.set_cons_succ]
    refine wpAnyH_take (i := 15) (oi := _) (v := ?_) (List.getElem?_toArray.trans rfl) (by kernel_rfl) (by kernel_rfl) (by kernel_rfl) (fun _ _ _ h => h) (Or.inl ⟨by rfl, ?_⟩) (by assumption) ?_
    rotate_left
    · intro w hSw; (try dsimp only at hSw); go_simp <;> with_reducible rfl
    try simp only [Act.put, List.setIfInBounds_toArray, List.set_cons_zero, List.set_cons_succ]
    refine wpAnyH_take (i := 16) (oi := _) (v := ?_) (List.getElem?_toArray.trans rfl) (by kernel_rfl) (by kernel_rfl) (by kernel_rfl) (fun _ _ _ h => h) (Or.inl ⟨by rfl, ?_⟩) (by assumption) ?_
    rotate_left
    · intro w hSw; (try dsimp only at hSw); go_simp <;> with_reducible rfl
    try simp only [Act.put, List.setIfInBounds_toArray, List.set_cons_zero, List.set_cons_succ]
    refine wpAnyH_take (i := 17) (oi := _) (v := ?_) (List.getElem?_toArray.trans rfl) (by kernel_rfl) (by kernel_rfl) (by kernel_rfl) (fun _ _ _ h => h) (Or.inl ⟨by rfl, ?_⟩) (by assumption) ?_
    rotate_left
    · intro w hSw; (try dsimp only at hSw); go_simp <;> with_reducible rfl
    try simp only [Act.put, List.setIfInBounds_toArray, List.set_cons_zero, List.set_cons_succ]
    refine wpAnyH_take (i := 18) (oi := _) (v := ?_) (List.getElem?_toArray.trans rfl) (by kernel_rfl) (by kernel_rfl) (by kernel_rfl) (fun _ _ _ h => h) (Or.inl ⟨by rfl, ?_⟩) (by assumption) ?_
    rotate_left
    · intro w hSw; (try dsimp only at hSw); go_simp <;> with_reducible rfl
    try simp only [Act.put, List.setIfInBounds_toArray, List.set_cons_zero, List.set_cons_succ]
    refine wpAnyH_take (i := 19) (oi := _) (v := ?_) (List.getElem?_toArray.trans rfl) (by kernel_rfl) (by kernel_rfl) (by kernel_rfl) (fun _ _ _ h => h) (Or.inl ⟨by rfl, ?_⟩) (by assumption) ?_
    rotate_left
    · intro w hSw; (try dsimp only at hSw); go_simp <;> with_reducible rfl
    try simp only [Act.put, List.setIfInBounds_toArray, List.set_cons_zero, List.set_cons_succ]
    refine wpAnyH_take (i := 20) (oi := _) (v := ?_) (List.getElem?_toArray.trans rfl) (by kernel_rfl) (by kernel_rfl) (by kernel_rfl) (fun _ _ _ h => h) (Or.inl ⟨by rfl, ?_⟩) (by assumption) ?_
    rotate_left
    · intro w hSw; (try dsimp only at hSw); go_simp <;> with_reducible rfl
    try simp only [Act.put, List.setIfInBounds_toArray, List.set_cons_zero, List.set_cons_succ]
    refine wpAnyH_take (i := 21) (oi := _) (v := ?_) (List.getElem?_toArray.trans rfl) (by kernel_rfl) (by kernel_rfl) (by kernel_rfl) (fun _ _ _ h => h) (Or.inl ⟨by rfl, ?_⟩) (by assumption) ?_
    rotate_left
    · intro w hSw; (try dsimp only at hSw); go_simp <;> with_reducible rfl
    try simp only [Act.put, List.setIfInBounds_toArray, List.set_cons_zero, List.set_cons_succ]
    refine wpAnyH_take (i := 23) (oi := _) (v := ?_) (List.getElem?_toArray.trans rfl) (by kernel_rfl) (by kernel_rfl) (by kernel_rfl) (fun _ _ _ h => h) (Or.inl ⟨by rfl, ?_⟩) (by assumption) ?_
    rotate_left
    · intro w hSw; (try dsimp only at hSw); go_simp <;> with_reducible rfl
    try simp only [Act.put, List.setIfInBounds_toArray, List.set_cons_zero, List.set_cons_succ]
    refine wpAnyH_take (i := 24) (oi := _) (v := ?_) (List.getElem?_toArray.trans rfl) (by kernel_rfl) (by kernel_rfl) (by kernel_rfl) (fun _ _ _ h => h) (Or.inl ⟨by rfl, ?_⟩) (by assumption) ?_
    rotate_left
    · intro w hSw; (try dsimp only at hSw); go_simp <;> with_reducible rfl
    try simp only [Act.put, List.setIfInBounds_toArray, List.set_cons_zero, List.set_cons_succ]
    refine wpAnyH_take (i := 25) (oi := _) (v := ?_) (List.getElem?_toArray.trans rfl) (by kernel_rfl) (by kernel_rfl) (by kernel_rfl) (fun _ _ _ h => h) (Or.inl ⟨by rfl, ?_⟩) (by assumption) ?_
    rotate_left
    · intro w hSw; (try dsimp only at hSw); go_simp <;> with_reducible rfl
    try simp only [Act.put, List.setIfInBounds_toArray, List.set_cons_zero, List.set_cons_succ]
    refine wpAnyH_take (i := 26) (oi := _) (v := ?_) (List.getElem?_toArray.trans rfl) (by kernel_rfl) (by kernel_rfl) (by kernel_rfl) (fun _ _ _ h => h) (Or.inl ⟨by rfl, ?_⟩) (by assumption) ?_
    rotate_left
    · intro w hSw; (try dsimp only at hSw); go_simp <;> with_reducible rfl
    try simp only [Act.put, List.setIfInBounds_toArray, List.set_cons_zero, List.set_cons_succ]
    refine wpAnyH_take (i := 27) (oi := _) (v := ?_) (List.getElem?_toArray.trans rfl) (by kernel_rfl) (by kernel_rfl) (by kernel_rfl) (fun _ _ _ h => h) (Or.inl ⟨by rfl, ?_⟩) (by assumption) ?_
    rotate_left
    · intro w hSw; (try dsimp only at hSw); go_simp <;> with_reducible rfl
    try simp only [Act.put, List.setIfInBounds_toArray, List.set_cons_zero, List.set_cons_succ]
    refine wpAnyH_take (i := 28) (oi := _) (v := ?_) (List.getElem?_toArray.trans rfl) (by kernel_rfl) (by kernel_rfl) (by kernel_rfl) (fun _ _ _ h => h) (Or.inl ⟨by rfl, ?_⟩) (by assumption) ?_
    rotate_left
    · intro w hSw; (try dsimp only at hSw); go_simp <;> with_reducible rfl
    try simp only [Act.put, List.setIfInBounds_toArray, List.set_cons_zero, List.set_cons_succ]
    refine wpAnyH_ready (rs := [22]) (by kernel_rfl) (by simp) ?_
    refine AllReadyH.cons (o := _) (List.getElem?_toArray.trans rfl) (fun K hK => ?_) AllReadyH.nil
    go_simp
    (go_at_call 23; (with_reducible refine (HRo.out _ HB9 _ _ (RRp.out _ HB9) ROp.out RLp.out).mono ?_); rintro e w8 ⟨uw8, rfl, r1, r2⟩; have HXw8 := Aside0.mk r1; have HB9 := bel_trans (wb := w4) HB9 r2; clear r1 r2)
    refine hK.out _ _ ?_ (fun hHeld => ?_)
    · exact HB9
    clear hK K
    try simp only [Act.put, List.setIfInBounds_toArray, List.set_cons_zero, List.set_cons_succ]
    refine wpAnyH_ready (rs := [29]) (by kernel_rfl) (by simp) ?_
    refine AllReadyH.cons (o := _) (List.getElem?_toArray.trans rfl) (fun K hK => ?_) AllReadyH.nil
    go_simp
    (go_at_call 23; (with_reducible refine (HRx.out _ HB9 _ _ (RRp.out _ HB9) ROp.out RLp.out).mono ?_); rintro e w9 ⟨uw9, rfl, r1, r2⟩; have HXw8 := Aside0.mk (HXw8.out.below r2); have HXw9 := Aside0.mk r1; have HB9 := bel_trans (wb := w4) HB9 r2; clear r1 r2)
    refine hK.out _ _ ?_ (fun hHeld => ?_)
    · exact HB9
    clear hK K
    try simp only [Act.put, List.setIfInBounds_toArray, List.set_cons_zero, List.set_cons_succ]
    refine wpAnyH_ready (rs := [30]) (by kernel_rfl) (by simp) ?_
    refine AllReadyH.cons (o := _) (List.getElem?_toArray.trans rfl) (fun K hK => ?_) AllReadyH.nil
    go_simp
    (go_at_call 22; (with_reducible refine (HEq.out _ _ _ HXw8.out HXw9.out).mono ?_); rintro e w10 ⟨rfl, r2⟩; have HB9 := bel_trans (wb := w4) HB9 r2; clear r2)
    refine hK.out _ _ ?_ (fun hHeld => ?_)
    · exact HB9
    clear hK K
    try simp only [Act.put, List.setIfInBounds_toArray, List.set_cons_zero, List.set_cons_succ]
    refine wpAnyH_take (i := 31) (oi := _) (v := ?_) (List.getElem?_toArray.trans rfl) (by kernel_rfl) (by kernel_rfl) (by kernel_rfl) (fun _ _ _ h => h) (Or.inl ⟨by rfl, ?_⟩) (by assumption) ?_
    rotate_left
    · intro w hSw; (try dsimp only at hSw); go_simp <;> with_reducible rfl
    try simp only [Act.put, List.setIfInBounds_toArray, List.set_cons_zero, List.set_cons_succ]
    refine wpAnyH_take (i := 32) (oi := _) (v := ?_) (List.getElem?_toArray.trans rfl) (by kernel_rfl) (by kernel_rfl) (by kernel_rfl) (fun _ _ _ h => h) (Or.inl ⟨by rfl, ?_⟩) (by assumption) ?_
    rotate_left
    · intro w hSw; (try dsimp only at hSw); go_simp <;> with_reducible rfl
    try simp only [Act.put, List.setIfInBounds_toArray, List.set_cons_zero, List.set_cons_succ]
    refine wpAnyH_take (i := 33) (oi := _) (v := ?_) (List.getElem?_toArray.trans rfl) (by kernel_rfl) (by kernel_rfl) (by kernel_rfl) (fun _ _ _ h => h) (Or.inl ⟨by rfl, ?_⟩) (by assumption) ?_
    rotate_left
    · intro w hSw; (try dsimp only at hSw); go_simp <;> with_reducible rfl
    try simp only [Act.put, List.setIfInBounds_toArray, List.set_cons_zero, List.set_cons_succ]
    refine wpAnyH_done (by kernel_rfl) ?_ _
    go_wp2_with fail
    go_ret
    exact ⟨rfl, by have h := bel_trans HBW.out (bel_trans HB3.out (bel_trans HB5.out HB9)); first | exact h | (rw [hg] at h; exact h)⟩

end Go.Proofs.YtkpadjhdneiniaaGreatDoor.Am
