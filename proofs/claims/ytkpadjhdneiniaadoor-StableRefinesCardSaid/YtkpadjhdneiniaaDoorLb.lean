/- StableKeeps: its walk. -/
import Derived.Test.YtkpadjhdneiniaaDoorLa
namespace Go.Proofs.YtkpadjhdneiniaaDoor.Sb
set_option linter.unusedVariables false
open Go.RowKit Go.Proofs.YtkpadjhdneiniaaDoorW.PrintWords Go.Proofs.YtkpadjhdneiniaaDoorW.PrintLast Go.Proofs.YtkpadjhdneiniaaDoorW.PrintMore Go.Maps
open Go.Proofs.YtkpadjhdneiniaaDoor.Base Go.Proofs.YtkpadjhdneiniaaDoor.Map Go.Proofs.YtkpadjhdneiniaaDoor.Sl Go.Proofs.YtkpadjhdneiniaaDoor.Ow Go.Proofs.YtkpadjhdneiniaaDoor.Se Go.Proofs.YtkpadjhdneiniaaDoor.Gr Go.Proofs.YtkpadjhdneiniaaDoor.Rf Go.Proofs.YtkpadjhdneiniaaDoor.Tx Go.Proofs.YtkpadjhdneiniaaDoor.St

theorem ref_right {T : List ByteArray} {E : List GE} {tm out : List Int} (hM : RightM T tm) (h : IsRef T.length E tm out) : RightM T out := ⟨h.hd.len, fun i hi => by
  rw [h.hd.len] at hi
  obtain ⟨k, h1, h2, h3⟩ := h.hd.head i hi
  have hr := (h.rel i k hi (by omega)).1 (h1.trans h3.symm)
  have hs := rel_bis.same i k hr
  have m1 := hM.2 i (by rw [hM.1]; exact hi)
  have m2 := hM.2 k (by rw [hM.1]; omega)
  unfold OkM
  rw [h1]
  exact ⟨by omega, by omega, by rw [Int.toNat_natCast]; exact h3, by rw [← m1.2.2.2, hs, m2.2.2.2]⟩⟩
theorem ref_finer {n : Nat} {E : List GE} {tm out : List Int} (hl : tm.length = n) (h : IsRef n E tm out) : FinerM out tm := ⟨h.hd.len.trans hl.symm, fun i k hk hi e => by
  have hi : i < n := by rw [← h.hd.len]; exact hi
  exact rel_bis.same i k ((h.rel i k hi (by omega)).1 e)⟩
theorem ref_ok {n : Nat} {E : List GE} {tm out : List Int} (hn : n ≤ 1000) (h : IsRef n E tm out) : ∀ x ∈ out, ok64 x := fun x hx => by
  obtain ⟨i, hi, rfl⟩ := List.getElem_of_mem hx
  have hi' : i < n := by rw [← h.hd.len]; exact hi
  have := cl_ok h.hd hn hi'
  rw [cl, List.getD_eq_getElem?_getD, List.getElem?_eq_getElem hi] at this
  exact this
/-- the first object of each type -/
structure TypeM (T : List ByteArray) (m : Nat) (al : List Int) : Prop where
  len : al.length = m
  at_ : ∀ i, i < m → ∃ h : Nat, cl al i = (h : Int) ∧ h ≤ i ∧ T.getD h ByteArray.empty = T.getD i ByteArray.empty ∧ ∀ k, k < h → T.getD k ByteArray.empty ≠ T.getD i ByteArray.empty
theorem TypeM.nil (T : List ByteArray) : TypeM T 0 [] := ⟨rfl, fun i h => absurd h (by omega)⟩
theorem TypeM.snoc {T : List ByteArray} {m : Nat} {al : List Int} (h : TypeM T m al) {q : Nat} (h0 : q ≤ m) (h1 : T.getD q ByteArray.empty = T.getD m ByteArray.empty) (h2 : ∀ k, k < q → T.getD k ByteArray.empty ≠ T.getD m ByteArray.empty) : TypeM T (m + 1) (al ++ [(q : Int)]) := by
  refine ⟨by rw [List.length_append, h.len]; rfl, fun i hi => ?_⟩
  by_cases e : i = m
  · subst e
    refine ⟨q, ?_, h0, h1, h2⟩
    rw [cl, List.getD_eq_getElem?_getD, List.getElem?_append_right (by rw [h.len]; exact Nat.le_refl _), h.len]; simp
  · obtain ⟨a, e1, e2⟩ := h.at_ i (by omega)
    refine ⟨a, ?_, e2⟩
    rw [← e1, cl, cl, List.getD_eq_getElem?_getD, List.getD_eq_getElem?_getD, List.getElem?_append_left (by rw [h.len]; omega)]
theorem typeG_at {T : List ByteArray} {i : Nat} (h : i < T.length) : typeG T (i : Int) = T.getD i ByteArray.empty := by
  unfold typeG; rw [if_pos (by omega)]; simp
theorem TypeM.same {T : List ByteArray} {al : List Int} (h : TypeM T T.length al) {i k : Nat} (hi : i < T.length) (hk : k < T.length) (e : T.getD i ByteArray.empty = T.getD k ByteArray.empty) : cl al i = cl al k := by
  obtain ⟨a, a1, a2, a3, a4⟩ := h.at_ i hi
  obtain ⟨b, b1, b2, b3, b4⟩ := h.at_ k hk
  rw [a1, b1]
  rcases Nat.lt_trichotomy a b with hl | hl | hl
  · exact absurd (a3.trans e) (b4 a hl)
  · rw [hl]
  · exact absurd (b3.trans e.symm) (a4 b hl)
theorem TypeM.right {T : List ByteArray} {al : List Int} (h : TypeM T T.length al) : RightM T al := ⟨h.len, fun i hi => by
  rw [h.len] at hi
  obtain ⟨a, a1, a2, a3, a4⟩ := h.at_ i hi
  have ha : a < T.length := by omega
  unfold OkM
  rw [a1, typeG_at hi, typeG_at ha]
  refine ⟨by omega, by omega, ?_, a3⟩
  rw [Int.toNat_natCast]
  have := h.same ha hi a3
  rw [a1] at this
  exact this⟩
theorem top_finer {T : List ByteArray} {E : List GE} {tm out al top : List Int} (hM : RightM T tm) (h : IsRef T.length E tm out) (ha : TypeM T T.length al) (ht : IsRef T.length E al top) : FinerM out top := ⟨h.hd.len.trans ht.hd.len.symm, fun i k hk hi e => by
  have hi : i < T.length := by rw [← h.hd.len]; exact hi
  refine (ht.rel i k hi (by omega)).2 (rel_mono (fun a b ha' hb' hab => ?_) ((h.rel i k hi (by omega)).1 e))
  have m1 := (hM.2 a (by rw [hM.1]; exact ha')).2.2.2
  have m2 := (hM.2 b (by rw [hM.1]; exact hb')).2.2.2
  rw [hab, m2, typeG_at ha', typeG_at hb'] at m1
  exact (ha.same ha' hb' m1.symm)⟩
set_option maxHeartbeats 16000000 in
set_option maxRecDepth 100000 in
theorem keeps_law (A A2 : Option Addr) (c c2 : Nat) (T : List ByteArray) (E : List GE) (u : Value) (tm : List Int) (w : World) (hT : TZ w) (hP : P10 w) (hRT : RdT w A T) (hRE : RdE w A2 E) (hu : RdV w u tm)
    (hok : ∀ a f z, (a, f, z) ∈ E → ok64 f) (hoa : ∀ a f z, (a, f, z) ∈ E → ok64 a) :
    Calls Tryd.prog 6 #[.agg #[.slice A T.length c, .slice A2 E.length c2], u] w fun e w' => e = .returned (.bool true) ∧ Below w.heap.size w w' := by
  have HAw := Aside0.mk (fun (W : World) (hb : Below w.heap.size w W) => awake_any W (hT.below hb) (hP.below hb))
  have HTP := Aside0.mk (And.intro hT hP)
  have HU := Aside0.mk hu
  have HRT := Aside0.mk hRT
  have HRE := Aside0.mk hRE
  have Hok := Aside0.mk (And.intro hok hoa)
  obtain ⟨A3, c3, rfl, hc3, hr3⟩ := hu
  have hmx := hr3.max
  obtain ⟨n, hn⟩ : ∃ n, T.length = n := ⟨_, rfl⟩
  obtain ⟨nE, hnE⟩ : ∃ n, E.length = n := ⟨_, rfl⟩
  obtain ⟨n3, hn3⟩ : ∃ n, tm.length = n := ⟨_, rfl⟩
  have Hn := Aside0.mk (And.intro hn (And.intro hnE hn3))
  have HLi := Aside0.mk (fun (W : World) (hb : Below w.heap.size w W) => light_any A A2 n c c2 E W (hRE.below hb))
  have HRr := Aside0.mk (fun (W : World) (hb : Below w.heap.size w W) (hl : T.length ≤ 1000000) => rright_any A A2 c E.length c2 T _ tm W (hRT.below hb) (HU.out.below hb) hl)
  rw [hn3] at HU hmx ⊢
  rw [hnE] at HLi ⊢
  rw [hn] at HRr ⊢
  rw [hnE, hn3] at HRr
  clear hT hP hRT hRE hok hoa hc3 hr3 hn hnE hn3
  obtain ⟨w0, hw0⟩ : ∃ w0, w.alloc (.cells #[.slice A n c, .slice A2 nE c2] 25) = w0 := ⟨_, rfl⟩
  have HB0 := Aside0.mk (show Below w.heap.size w w0 by rw [← hw0]; exact below_alloc (Below.refl _ _) _)
  have Hb0 := Aside0.mk (show w0.heap[w.heap.size]? = some (.cells #[.slice A n c, .slice A2 nE c2] 25 (0, 0)) by rw [← hw0]; exact heap_alloc_new _ _)
  go_enter Tryd.func6, Tryd.ntmps6
  go_wp2_with fail
  clear hw0
  obtain ⟨g, hg⟩ : ∃ g, w.heap.size = g := ⟨_, rfl⟩
  have Hg := Aside0.mk hg
  rw [hg] at Hb0
  simp only [hg]
  clear hg
  refine (HAw.out w0 HB0.out).mono ?_
  rintro e w1 ⟨rfl, r1⟩
  have HB1 := Aside0.mk (bel_trans HB0.out r1)
  have Hb1 := Aside0.mk (Ow.blk_below Hb0.out r1)
  have g0 : w1.cell? ⟨g, 0, none⟩ = some (.slice A n c) := blk_cellD Hb1.out 0 _ rfl
  have g1 : w1.cell? ⟨g, 1, none⟩ = some (.slice A2 nE c2) := blk_cellD Hb1.out 1 _ rfl
  clear r1
  go_wp2_with fail
  refine (HLi.out w1 HB1.out).mono ?_
  rintro e w2 ⟨rfl, r1⟩
  have HB2 := Aside0.mk (bel_trans HB1.out r1)
  have Hb2 := Aside0.mk (Ow.blk_below Hb1.out r1)
  clear g0 g1 r1
  by_cases hL : LightG n E
  case neg =>
    have d1 := decide_eq_false hL
    rw [d1]
    clear d1 hL
    go_wp2_with fail
    refine (HAw.out w2 HB2.out).mono ?_
    rintro e w3 ⟨rfl, r1⟩
    have HB3 := Aside0.mk (bel_trans HB2.out r1)
    clear r1
    go_wp2_with fail
    go_ret
    exact ⟨rfl, HB3.out⟩
  have d1 := decide_eq_true hL
  rw [d1]
  have HL := Aside0.mk hL
  clear d1 hL
  have g0 : w2.cell? ⟨g, 0, none⟩ = some (.slice A n c) := blk_cellD Hb2.out 0 _ rfl
  have g1 : w2.cell? ⟨g, 1, none⟩ = some (.slice A2 nE c2) := blk_cellD Hb2.out 1 _ rfl
  have C0 := Aside0.mk (HRr.out w2 HB2.out (by have := HL.out.2.2; omega))
  go_wp2_with fail
  refine C0.out.mono ?_
  rintro e w3 ⟨rfl, r1⟩
  have HB3 := Aside0.mk (bel_trans HB2.out r1)
  have Hb3 := Aside0.mk (Ow.blk_below Hb2.out r1)
  clear g0 g1 r1 C0
  by_cases hM : RightM T tm
  case neg =>
    have d1 := decide_eq_false hM
    rw [d1]
    clear d1 hM
    go_wp2_with fail
    refine (HAw.out w3 HB3.out).mono ?_
    rintro e w4 ⟨rfl, r1⟩
    have HB4 := Aside0.mk (bel_trans HB3.out r1)
    clear r1
    go_wp2_with fail
    go_ret
    exact ⟨rfl, HB4.out⟩
  have d1 := decide_eq_true hM
  rw [d1]
  have HM := Aside0.mk hM
  clear d1 hM
  have g0 : w3.cell? ⟨g, 0, none⟩ = some (.slice A n c) := blk_cellD Hb3.out 0 _ rfl
  have g1 : w3.cell? ⟨g, 1, none⟩ = some (.slice A2 nE c2) := blk_cellD Hb3.out 1 _ rfl
  have HN := Aside0.mk (show n ≤ 8 ∧ E.length ≤ 60 from ⟨HL.out.2.2, HL.out.1.2⟩)
  have hlT : T.length ≤ 1000 ∧ E.length ≤ 1000 := by have := HN.out; have := Hn.out.1; omega
  have hRg : RightG T.length E := by rw [Hn.out.1]; exact HL.out.2.1
  have HlT := Aside0.mk (And.intro hlT hRg)
  clear hlT hRg
  have R1 := new_any A c T A2 c2 E w3 (HRT.out.below HB3.out) (HRE.out.below HB3.out) HlT.out.1.1 HlT.out.1.2 Hok.out.1 HlT.out.2
  rw [Hn.out.1, Hn.out.2.1] at R1
  have R1 := Aside0.mk R1
  go_wp2_with fail
  refine R1.out.mono ?_
  clear R1
  rintro e w4 ⟨p, lab, rfl, r1, r2⟩
  have HG := Aside0.mk (GA.mk ⟨lab, r1⟩)
  have HB4 := Aside0.mk (bel_trans HB3.out r2)
  have Hb4 := Aside0.mk (Ow.blk_below Hb3.out r2)
  clear r1 r2 g0 g1
  have HX := Aside0.mk (fun (W : World) (hb : Below w4.heap.size w4 W) (v : Value) (l : List Int) (hv : RdV W v l) => refine_any p T E v l W (HG.out.below hb) (HTP.out.1.below (bel_trans HB4.out hb)) (HTP.out.2.below (bel_trans HB4.out hb)) hv HlT.out.2 Hok.out.1 Hok.out.2 HlT.out.1)
  have C1 := Aside0.mk (HX.out w4 (Below.refl _ _) _ tm (HU.out.below HB4.out))
  go_wp2_with fail
  refine C1.out.mono ?_
  rintro e w5 ⟨r1, ⟨-, v, out, rfl, r2, r3⟩ | ⟨r2, -⟩⟩
  case inr => exact absurd HM.out r2
  have HV := Aside0.mk r2
  have HI := Aside0.mk r3
  have HB5 := Aside0.mk r1
  have HRo := Aside0.mk (ref_right HM.out r3)
  clear r1 r2 r3 C1
  have C1 := Aside0.mk (HX.out w5 HB5.out v out HV.out)
  go_wp2_with fail
  refine C1.out.mono ?_
  rintro e w6 ⟨r1, ⟨-, v2, out2, rfl, r2, r3⟩ | ⟨r2, -⟩⟩
  case inr => exact absurd HRo.out r2
  rw [(ref_self HlT.out.2 HRo.out.hd r3).2 (HI.out.stab HlT.out.2)] at r2
  have HV2 := Aside0.mk r2
  have HB6 := Aside0.mk (bel_trans HB5.out r1)
  have HV1 := Aside0.mk (HV.out.below r1)
  clear r1 r2 r3 C1 HV
  have C1 := Aside0.mk (mright_any p T E v out w6 (HG.out.below HB6.out) HV1.out (by have := HlT.out.1; omega))
  rw [decide_eq_true HRo.out] at C1
  go_wp2_with fail
  refine C1.out.mono ?_
  rintro e w7 ⟨rfl, r1⟩
  have HB7 := Aside0.mk (bel_trans HB6.out r1)
  have HV1' := Aside0.mk (HV1.out.below r1)
  have HV2' := Aside0.mk (HV2.out.below r1)
  clear r1 C1 HV1 HV2
  have C1 := Aside0.mk (stable_any p T E v out w7 (HG.out.below HB7.out) (HTP.out.1.below (bel_trans HB4.out HB7.out)) HV1'.out HlT.out.2 Hok.out.1 Hok.out.2 HlT.out.1)
  rw [decide_eq_true (show RightM T out ∧ Stab T.length E out from ⟨HRo.out, HI.out.stab HlT.out.2⟩)] at C1
  go_wp2_with fail
  refine C1.out.mono ?_
  rintro e w8 ⟨rfl, r1⟩
  have HB8 := Aside0.mk (bel_trans HB7.out r1)
  have HV1 := Aside0.mk (HV1'.out.below r1)
  have HV2 := Aside0.mk (HV2'.out.below r1)
  clear r1 C1 HV1' HV2'
  have hfi : FinerM out tm := ref_finer HM.out.1 HI.out
  have hlo : out.length ≤ 1000000 := by rw [HI.out.hd.len]; have := HlT.out.1; omega
  have Hlo := Aside0.mk hlo
  have C1 := Aside0.mk (finer_any v _ out tm w8 HV1.out (HU.out.below (bel_trans HB4.out HB8.out)) hlo (ref_ok HlT.out.1.1 HI.out))
  rw [decide_eq_true hfi] at C1
  have Hfi := Aside0.mk hfi
  clear hfi hlo
  go_wp2_with fail
  refine C1.out.mono ?_
  rintro e w9 ⟨rfl, r1⟩
  have HB9 := Aside0.mk (bel_trans HB8.out r1)
  have HV1' := Aside0.mk (HV1.out.below r1)
  have HV2' := Aside0.mk (HV2.out.below r1)
  clear r1 C1 HV1 HV2
  have C1 := Aside0.mk (rfiner_any v _ out tm w9 HV1'.out (HU.out.below (bel_trans HB4.out HB9.out)) Hlo.out)
  rw [decide_eq_true Hfi.out] at C1
  go_wp2_with fail
  refine C1.out.mono ?_
  rintro e w10 ⟨rfl, r1⟩
  have HB10 := Aside0.mk (bel_trans HB9.out r1)
  have HV1 := Aside0.mk (HV1'.out.below r1)
  have HV2 := Aside0.mk (HV2'.out.below r1)
  clear r1 C1 HV1' HV2'
  have C1 := Aside0.mk (same_any v2 v out out w10 HV2.out HV1.out)
  rw [decide_eq_true (rfl : out = out)] at C1
  go_wp2_with fail
  refine C1.out.mono ?_
  rintro e w11 ⟨rfl, r1⟩
  have HB11 := Aside0.mk (bel_trans HB10.out r1)
  have HV1' := Aside0.mk (HV1.out.below r1)
  have Hb11 := Aside0.mk (Ow.blk_below Hb4.out (bel_trans HB10.out r1))
  clear r1 C1 HV1 HV2
  go_wp2_with fail
  go_loopw [11, 12] (fun V I wr => ∃ (i : Nat) (F : Nat → Prop) (al : List Int), I = .int .i64 (i : Int) ∧ i ≤ n ∧ Aside0 (OwF wr F V al) ∧ Aside0 (TypeM T i al) ∧ Aside0 (∀ k, F k → w11.heap.size ≤ k) ∧ Aside0 (Below w11.heap.size w11 wr)) (fun _ I _ => n - (intOf I).toNat)
  case atStart => exact ⟨0, fun _ => False, [], rfl, Nat.zero_le _, ⟨OwF.nil _ _⟩, ⟨TypeM.nil _⟩, ⟨fun k hk => hk.elim⟩, ⟨Below.refl _ _⟩⟩
  case round =>
    obtain ⟨i, F, al, rfl, hi, HO, HTy, HFb, HB⟩ := hrel
    have hb := Ow.blk_below Hb11.out HB.out
    have g0 : wr.cell? ⟨g, 0, none⟩ = some (.slice A n c) := blk_cellD hb 0 _ rfl
    clear hb
    by_cases hin : i < n
    · have hnb : decide ((i : Int) < (n : Int)) = true := decide_eq_true (by omega)
      have hnc : decide (i < n) = true := decide_eq_true hin
      have i2 : (i : Int) ≤ 1000000 := by have := HN.out; omega
      have i3 : 0 ≤ (i : Int) := by omega
      have Hin := Aside0.mk hin
      have Hi2 := Aside0.mk i2
      clear hin hi
      go_wp2_with fail
      clear g0
      go_loopw [13, 14] (fun N K wx => ∃ (h : Nat) (kk : Int), N = .int .i64 (h : Int) ∧ K = .int .i64 kk ∧ -1 ≤ kk ∧ kk < (i : Int) ∧ Aside0 (h ≤ i ∧ kk < (h : Int) ∧ T.getD h ByteArray.empty = T.getD i ByteArray.empty ∧ ∀ k : Nat, k < h → kk < (k : Int) → T.getD k ByteArray.empty ≠ T.getD i ByteArray.empty) ∧ Aside0 (OwF wx F u11 al) ∧ Aside0 (Below w11.heap.size w11 wx)) (fun _ K _ => (intOf K + 1).toNat)
      case atStart => exact ⟨i, (i : Int) - 1, rfl, rfl, by omega, by omega, ⟨Nat.le_refl _, by omega, rfl, fun k h1 h2 => absurd h1 (by omega)⟩, HO, HB⟩
      case round =>
        obtain ⟨h, kk, rfl, rfl, k1, k2, HH, HO1, HBk⟩ := hrel
        by_cases hk0 : 0 ≤ kk
        · obtain ⟨k, rfl⟩ := Int.eq_ofNat_of_zero_le hk0
          have hd0 : decide ((k : Int) ≥ 0) = true := decide_eq_true (by omega)
          have hb := Ow.blk_below Hb11.out HBk.out
          have g0 : wr.cell? ⟨g, 0, none⟩ = some (.slice A n c) := blk_cellD hb 0 _ rfl
          have HBx := Aside0.mk (bel_trans HB4.out (bel_trans HB11.out HBk.out))
          obtain ⟨ad, rfl, e1⟩ := (HRT.out.below HBx.out).at_ k (by have := Hin.out; have := Hn.out.1; omega)
          obtain ⟨ad', had, e2⟩ := (HRT.out.below HBx.out).at_ i (by have := Hin.out; have := Hn.out.1; omega)
          cases had
          obtain ⟨s, hs⟩ : ∃ s, T.getD k ByteArray.empty = s := ⟨_, rfl⟩
          obtain ⟨t, ht⟩ : ∃ s, T.getD i ByteArray.empty = s := ⟨_, rfl⟩
          rw [hs] at e1
          rw [ht] at e2
          have i0 : 0 ≤ (i : Int) := by omega
          have i1 : (i : Int) < (n : Int) := by have := Hin.out; omega
          have q0 : 0 ≤ (k : Int) := by omega
          have q1 : (k : Int) < (n : Int) := by omega
          have q2 : (k : Int) ≤ 1000000 := by have := Hi2.out; omega
          have Hk := Aside0.mk (And.intro k2 (And.intro hs ht))
          clear hb k1 k2 hs ht hk0
          replace i0 := eq_true i0
          replace i1 := eq_true i1
          replace q1 := eq_true q1
          by_cases hst : s = t
          · have he := Tx_eq hst
            have HH2 := Aside0.mk (show k ≤ i ∧ (k : Int) - 1 < (k : Int) ∧ T.getD k ByteArray.empty = T.getD i ByteArray.empty ∧ ∀ j : Nat, j < k → (k : Int) - 1 < (j : Int) → T.getD j ByteArray.empty ≠ T.getD i ByteArray.empty from ⟨by have := Hk.out.1; omega, by omega, by rw [Hk.out.2.1, Hk.out.2.2]; exact hst, fun j h1 h2 => absurd h1 (by omega)⟩)
            clear hst
            go_wp2_with fail
            go_quiet (fail)
            go_wp2_with fail
            go_roundw
            case rel => exact ⟨k, (k : Int) - 1, rfl, rfl, by omega, by have := Hk.out.1; omega, HH2, ⟨HO1.out.below (pw_below_drewN (Below.refl _ _) _)⟩, ⟨pw_below_drewN HBk.out _⟩⟩
            case measure => simp [intOf]
          · have he := Tx_ne hst
            have HH2 := Aside0.mk (show h ≤ i ∧ (k : Int) - 1 < (h : Int) ∧ T.getD h ByteArray.empty = T.getD i ByteArray.empty ∧ ∀ j : Nat, j < h → (k : Int) - 1 < (j : Int) → T.getD j ByteArray.empty ≠ T.getD i ByteArray.empty from ⟨HH.out.1, by have := HH.out.2.1; omega, HH.out.2.2.1, fun j h1 h2 => by
              by_cases e : j = k
              · rw [e, Hk.out.2.1, Hk.out.2.2]; exact hst
              · exact HH.out.2.2.2 j h1 (by omega)⟩)
            clear hst
            go_wp2_with fail
            go_quiet (fail)
            go_wp2_with fail
            go_roundw
            case rel => exact ⟨h, (k : Int) - 1, rfl, rfl, by omega, by have := Hk.out.1; omega, HH2, ⟨HO1.out.below (pw_below_drewN (Below.refl _ _) _)⟩, ⟨pw_below_drewN HBk.out _⟩⟩
            case measure => simp [intOf]
        · have hd0 : decide (kk ≥ 0) = false := decide_eq_false hk0
          have hk2 : kk = -1 := by omega
          have HTy2 := Aside0.mk (HTy.out.snoc (q := h) HH.out.1 HH.out.2.2.1 (fun k hk => HH.out.2.2.2 k hk (by omega)))
          have i2 := Hi2.out
          have i3 : 0 ≤ (i : Int) := by omega
          have hal : Below wr.heap.size wr (wr.alloc (.cells #[.int .i64 (h : Int)] 3)) := below_alloc (Below.refl _ _) _
          have HO3 := Aside0.mk (HO1.out.below hal)
          have HRd : Aside0 (RdV (wr.alloc (.cells #[.int .i64 (h : Int)] 3)) (.slice (some ⟨wr.heap.size, 0, none⟩) 1 1) [(h : Int)]) := ⟨RdV.one (blk_cell (heap_alloc_new _ _) 0)⟩
          have HB5 := Aside0.mk (bel_trans HBk.out hal)
          clear hal hk2 k1 k2
          go_wp2_with (first | (at_builtin; refine appF (G := F) rfl (.tmp 113) (.tmp 115) rfl u11 (.slice (some ⟨wr.heap.size, 0, none⟩) 1 1) al [(h : Int)] (by rfl) (by rfl) HO3.out HRd.out (by have := HN.out; have := Hin.out; have := HTy.out.len; have e1 : [(h : Int)].length = 1 := rfl; omega) ?_; intro v1 w15 ho1 hc1) | go_in)
          have HB6 := Aside0.mk (chg_own HB5.out HFb.out hc1)
          have HF6 := Aside0.mk (ext_own (w2 := w15) HB5.out HFb.out)
          have HO6 := Aside0.mk ho1
          clear ho1 hc1
          go_roundw
          case rel => exact ⟨i + 1, _, _, by go_num, Hin.out, HO6, HTy2, HF6, HB6⟩
          case measure => have := Hin.out; simp [intOf]; omega
    · have hnb : decide ((i : Int) < (n : Int)) = false := decide_eq_false (by omega)
      have hnc : decide (i < n) = false := decide_eq_false hin
      obtain rfl : i = n := by omega
      clear hin hi
      have HT0 := HTy.out
      rw [← Hn.out.1] at HT0
      have HT0 := Aside0.mk HT0
      have C1 := Aside0.mk (HX.out wr (bel_trans HB11.out HB.out) u11 al HO.out.toV)
      go_wp2_with fail
      refine C1.out.mono ?_
      rintro e w12 ⟨r1, ⟨-, v3, top, rfl, r2, r3⟩ | ⟨r2, -⟩⟩
      case inr => exact absurd HT0.out.right r2
      have HVt := Aside0.mk r2
      have HBt := Aside0.mk (bel_trans HB.out r1)
      have htf := top_finer HM.out HI.out HT0.out r3
      have C2 := Aside0.mk (rfiner_any v v3 out top w12 (HV1'.out.below HBt.out) HVt.out Hlo.out)
      rw [decide_eq_true htf] at C2
      clear r1 r2 r3 C1 htf
      go_wp2_with fail
      refine C2.out.mono ?_
      rintro e w13 ⟨rfl, r1⟩
      have HBe := Aside0.mk (bel_trans HB4.out (bel_trans HB11.out (bel_trans HBt.out r1)))
      clear r1 C2
      go_wp2_with fail
      go_ret
      exact ⟨rfl, HBe.out⟩
end Go.Proofs.YtkpadjhdneiniaaDoor.Sb
