/- StableSelf: its walk. -/
import Derived.Test.YtkpadjhdneiniaaDoorKx
namespace Go.Proofs.YtkpadjhdneiniaaDoor.Sb
set_option linter.unusedVariables false
open Go.RowKit Go.Proofs.YtkpadjhdneiniaaDoorW.PrintWords Go.Proofs.YtkpadjhdneiniaaDoorW.PrintLast Go.Proofs.YtkpadjhdneiniaaDoorW.PrintMore Go.Maps
open Go.Proofs.YtkpadjhdneiniaaDoor.Base Go.Proofs.YtkpadjhdneiniaaDoor.Map Go.Proofs.YtkpadjhdneiniaaDoor.Sl Go.Proofs.YtkpadjhdneiniaaDoor.Ow Go.Proofs.YtkpadjhdneiniaaDoor.Se Go.Proofs.YtkpadjhdneiniaaDoor.Gr Go.Proofs.YtkpadjhdneiniaaDoor.Rf Go.Proofs.YtkpadjhdneiniaaDoor.Tx Go.Proofs.YtkpadjhdneiniaaDoor.St

def selfL (n : Nat) : List Int := (List.range n).map fun (i : Nat) => (i : Int)
theorem self_len (n : Nat) : (selfL n).length = n := by simp [selfL]
theorem self_at {n i : Nat} (h : i < n) : (selfL n).getD i 0 = (i : Int) := by simp [selfL, List.getD_eq_getElem?_getD, h]
theorem self_snoc (n : Nat) : selfL n ++ [(n : Int)] = selfL (n + 1) := by unfold selfL; rw [List.range_succ, List.map_append]; rfl
theorem self_right (T : List ByteArray) : RightM T (selfL T.length) := ⟨self_len _, fun i hi => by
  rw [self_len] at hi
  have e : cl (selfL T.length) i = (i : Int) := self_at hi
  unfold OkM
  rw [e]
  exact ⟨by omega, by omega, by rw [Int.toNat_natCast]; exact self_at hi, rfl⟩⟩
theorem self_stab (n : Nat) (E : List GE) : Stab n E (selfL n) := fun i hi => by
  have e : cl (selfL n) i = (i : Int) := self_at hi
  rw [e]
theorem self_ref {n : Nat} {E : List GE} {out : List Int} (hR : RightG n E) (hd : Hd n (selfL n)) (h : IsRef n E (selfL n) out) : out = selfL n := (ref_self hR hd h).2 (self_stab n E)
theorem none_stab (n : Nat) (tm : List Int) : Stab n [] tm := fun i _ => rfl
theorem rdE_nil (w : World) : RdE w none [] := ⟨Kd.C_nil kE w⟩
theorem right_nil (n : Nat) : RightG n [] := fun e h => by cases h
set_option maxHeartbeats 16000000 in
set_option maxRecDepth 100000 in
theorem self_law (A A2 : Option Addr) (c c2 : Nat) (T : List ByteArray) (E : List GE) (u : Value) (tm : List Int) (w : World) (hT : TZ w) (hP : P10 w) (hRT : RdT w A T) (hRE : RdE w A2 E) (hu : RdV w u tm)
    (hok : ∀ a f z, (a, f, z) ∈ E → ok64 f) (hoa : ∀ a f z, (a, f, z) ∈ E → ok64 a) :
    Calls Tryd.prog 3 #[.agg #[.slice A T.length c, .slice A2 E.length c2], u] w fun e w' => e = .returned (.bool true) ∧ Below w.heap.size w w' := by
  have HAw := Aside0.mk (fun (W : World) (hb : Below w.heap.size w W) => awake_any W (hT.below hb) (hP.below hb))
  have HTP := Aside0.mk (And.intro hT hP)
  have HU := Aside0.mk hu
  have HRT := Aside0.mk hRT
  have HRE := Aside0.mk hRE
  have Hok := Aside0.mk (And.intro hok hoa)
  obtain ⟨A3, c3, rfl, hc3, hr3⟩ := hu
  have hmx := hr3.max
  obtain ⟨n, hn⟩ : ∃ n, T.length = n := ⟨_, rfl⟩
  obtain ⟨nE, hnE⟩ : ∃ n, E.length = n := ⟨_, rfl⟩
  obtain ⟨n3, hn3⟩ : ∃ n, tm.length = n := ⟨_, rfl⟩
  have Hn := Aside0.mk (And.intro hn (And.intro hnE hn3))
  have HLi := Aside0.mk (fun (W : World) (hb : Below w.heap.size w W) => light_any A A2 n c c2 E W (hRE.below hb))
  have HRr := Aside0.mk (fun (W : World) (hb : Below w.heap.size w W) (hl : T.length ≤ 1000000) => rright_any A A2 c E.length c2 T _ tm W (hRT.below hb) (HU.out.below hb) hl)
  rw [hn3] at HU hmx ⊢
  rw [hnE] at HLi ⊢
  rw [hn] at HRr ⊢
  rw [hnE, hn3] at HRr
  clear hT hP hRT hRE hok hoa hc3 hr3 hn hnE hn3
  obtain ⟨w0, hw0⟩ : ∃ w0, w.alloc (.cells #[.slice A n c, .slice A2 nE c2] 25) = w0 := ⟨_, rfl⟩
  have HB0 := Aside0.mk (show Below w.heap.size w w0 by rw [← hw0]; exact below_alloc (Below.refl _ _) _)
  have Hb0 := Aside0.mk (show w0.heap[w.heap.size]? = some (.cells #[.slice A n c, .slice A2 nE c2] 25 (0, 0)) by rw [← hw0]; exact heap_alloc_new _ _)
  go_enter Tryd.func3, Tryd.ntmps3
  go_wp2_with fail
  clear hw0
  obtain ⟨g, hg⟩ : ∃ g, w.heap.size = g := ⟨_, rfl⟩
  have Hg := Aside0.mk hg
  rw [hg] at Hb0
  simp only [hg]
  clear hg
  refine (HAw.out w0 HB0.out).mono ?_
  rintro e w1 ⟨rfl, r1⟩
  have HB1 := Aside0.mk (bel_trans HB0.out r1)
  have Hb1 := Aside0.mk (Ow.blk_below Hb0.out r1)
  have g0 : w1.cell? ⟨g, 0, none⟩ = some (.slice A n c) := blk_cellD Hb1.out 0 _ rfl
  have g1 : w1.cell? ⟨g, 1, none⟩ = some (.slice A2 nE c2) := blk_cellD Hb1.out 1 _ rfl
  clear r1
  go_wp2_with fail
  refine (HLi.out w1 HB1.out).mono ?_
  rintro e w2 ⟨rfl, r1⟩
  have HB2 := Aside0.mk (bel_trans HB1.out r1)
  have Hb2 := Aside0.mk (Ow.blk_below Hb1.out r1)
  clear g0 g1 r1
  by_cases hL : LightG n E
  case neg =>
    have d1 := decide_eq_false hL
    rw [d1]
    clear d1 hL
    go_wp2_with fail
    refine (HAw.out w2 HB2.out).mono ?_
    rintro e w3 ⟨rfl, r1⟩
    have HB3 := Aside0.mk (bel_trans HB2.out r1)
    clear r1
    go_wp2_with fail
    go_ret
    exact ⟨rfl, HB3.out⟩
  have d1 := decide_eq_true hL
  rw [d1]
  have HL := Aside0.mk hL
  clear d1 hL
  by_cases h3 : n3 ≤ 20
  case neg =>
    have d1 : decide ((n3 : Int) > 20) = true := decide_eq_true (by omega)
    have d2 : decide ((20 : Int) < (n3 : Int)) = true := decide_eq_true (by omega)
    have d3 : (20 : Int) < (n3 : Int) := by omega
    go_wp2_with fail
    refine (HAw.out w2 HB2.out).mono ?_
    rintro e w3 ⟨rfl, r1⟩
    have HB3 := Aside0.mk (bel_trans HB2.out r1)
    clear r1
    go_wp2_with fail
    go_ret
    exact ⟨rfl, HB3.out⟩
  have d1 : decide ((n3 : Int) > 20) = false := decide_eq_false (by omega)
  have d2 : decide ((20 : Int) < (n3 : Int)) = false := decide_eq_false (by omega)
  have d3 : ¬ (20 : Int) < (n3 : Int) := by omega
  have g0 : w2.cell? ⟨g, 0, none⟩ = some (.slice A n c) := blk_cellD Hb2.out 0 _ rfl
  have g1 : w2.cell? ⟨g, 1, none⟩ = some (.slice A2 nE c2) := blk_cellD Hb2.out 1 _ rfl
  have HN := Aside0.mk (And.intro h3 (show n ≤ 8 ∧ E.length ≤ 60 from ⟨HL.out.2.2, HL.out.1.2⟩))
  clear h3
  have R1 := new_any A c T A2 c2 E w2 (HRT.out.below HB2.out) (HRE.out.below HB2.out) (by have := HN.out; have := Hn.out.1; omega) (by have := HN.out; omega) Hok.out.1 (by rw [Hn.out.1]; exact HL.out.2.1)
  rw [Hn.out.1, Hn.out.2.1] at R1
  have R1 := Aside0.mk R1
  go_wp2_with fail
  refine R1.out.mono ?_
  clear R1
  rintro e w3 ⟨p, lab, rfl, r1, r2⟩
  have HG := Aside0.mk (GA.mk ⟨lab, r1⟩)
  have HB3 := Aside0.mk (bel_trans HB2.out r2)
  have Hb3 := Aside0.mk (Ow.blk_below Hb2.out r2)
  clear r1 r2 g0 g1
  have g0 : w3.cell? ⟨g, 0, none⟩ = some (.slice A n c) := blk_cellD Hb3.out 0 _ rfl
  have g1 : w3.cell? ⟨g, 1, none⟩ = some (.slice A2 nE c2) := blk_cellD Hb3.out 1 _ rfl
  have R1 := new_any A c T none 0 [] w3 (HRT.out.below HB3.out) (rdE_nil w3) (by have := HN.out; have := Hn.out.1; omega) (by decide) (fun a f z h => by cases h) (right_nil _)
  rw [Hn.out.1] at R1
  have R1 := Aside0.mk R1
  go_wp2_with fail
  refine R1.out.mono ?_
  clear R1
  rintro e w4 ⟨ph, lab2, rfl, r1, r2⟩
  have HH := Aside0.mk (GA.mk ⟨lab2, r1⟩)
  have HB4 := Aside0.mk (bel_trans HB3.out r2)
  have Hb4 := Aside0.mk (Ow.blk_below Hb3.out r2)
  have HG4 := Aside0.mk (HG.out.below r2)
  clear r1 r2 g0 g1
  go_wp2_with fail
  go_loopw [9, 10] (fun V I wr => ∃ (i : Nat) (F : Nat → Prop), I = .int .i64 (i : Int) ∧ i ≤ n ∧ Aside0 (OwF wr F V (selfL i)) ∧ Aside0 (∀ k, F k → w4.heap.size ≤ k) ∧ Aside0 (Below w4.heap.size w4 wr)) (fun _ I _ => n - (intOf I).toNat)
  case atStart => exact ⟨0, fun _ => False, rfl, Nat.zero_le _, ⟨OwF.nil _ _⟩, ⟨fun k hk => hk.elim⟩, ⟨Below.refl _ _⟩⟩
  case round =>
    obtain ⟨i, F, rfl, hi, HO, HFb, HB⟩ := hrel
    have hb := Ow.blk_below Hb4.out HB.out
    have g0 : wr.cell? ⟨g, 0, none⟩ = some (.slice A n c) := blk_cellD hb 0 _ rfl
    have g1 : wr.cell? ⟨g, 1, none⟩ = some (.slice A2 nE c2) := blk_cellD hb 1 _ rfl
    have Hbr := Aside0.mk hb
    clear hb
    by_cases hin : i < n
    · have hnb : decide ((i : Int) < (n : Int)) = true := decide_eq_true (by omega)
      have hnc : decide (i < n) = true := decide_eq_true hin
      have i2 : (i : Int) ≤ 1000000 := by have := HN.out; omega
      have Hin := Aside0.mk hin
      have hal : Below wr.heap.size wr (wr.alloc (.cells #[.int .i64 (i : Int)] 3)) := below_alloc (Below.refl _ _) _
      have HO3 := Aside0.mk (HO.out.below hal)
      have HRd : Aside0 (RdV (wr.alloc (.cells #[.int .i64 (i : Int)] 3)) (.slice (some ⟨wr.heap.size, 0, none⟩) 1 1) [(i : Int)]) := ⟨RdV.one (blk_cell (heap_alloc_new _ _) 0)⟩
      have HB5 := Aside0.mk (bel_trans HB.out hal)
      clear hal hin hi
      go_wp2_with (first | (at_builtin; refine appF (G := F) rfl (.tmp 47) (.tmp 49) rfl u9 (.slice (some ⟨wr.heap.size, 0, none⟩) 1 1) (selfL i) [(i : Int)] (by rfl) (by rfl) HO3.out HRd.out (by have := HN.out; have := Hin.out; rw [self_len]; have e1 : [(i : Int)].length = 1 := rfl; omega) ?_; intro v1 w5 ho1 hc1) | go_in)
      have HB6 := Aside0.mk (chg_own HB5.out HFb.out hc1)
      have HF6 := Aside0.mk (ext_own (w2 := w5) HB5.out HFb.out)
      rw [self_snoc] at ho1
      have HO6 := Aside0.mk ho1
      clear ho1 hc1
      go_roundw
      case rel => exact ⟨i + 1, _, by go_num, Hin.out, HO6, HF6, HB6⟩
      case measure => have := Hin.out; simp [intOf]; omega
    · have hnb : decide ((i : Int) < (n : Int)) = false := decide_eq_false (by omega)
      have hnc : decide (i < n) = false := decide_eq_false hin
      obtain rfl : i = n := by omega
      clear hin hi
      have hlT : T.length ≤ 1000 ∧ E.length ≤ 1000 := by have := HN.out; have := Hn.out.1; omega
      have hRg : RightG T.length E := by rw [Hn.out.1]; exact HL.out.2.1
      have HlT := Aside0.mk (And.intro hlT hRg)
      have HBw := Aside0.mk (bel_trans HB4.out HB.out)
      have HX := Aside0.mk (refine_any p T E u9 (selfL i) wr (HG4.out.below HB.out) (HTP.out.1.below HBw.out) (HTP.out.2.below HBw.out) HO.out.toV hRg Hok.out.1 Hok.out.2 hlT)
      clear hlT hRg
      go_wp2_with fail
      clear g0 g1
      refine HX.out.mono ?_
      clear HX
      have hsr : RightM T (selfL i) := by rw [← Hn.out.1]; exact self_right T
      rintro e w5 ⟨r1, ⟨-, v, out, rfl, r2, r3⟩ | ⟨r2, -⟩⟩
      case inr => exact absurd hsr r2
      rw [Hn.out.1] at r3
      rw [self_ref HL.out.2.1 (by have := hsr.hd; rw [Hn.out.1] at this; exact this) r3] at r2
      have HV := Aside0.mk r2
      have HB5 := Aside0.mk (bel_trans HBw.out r1)
      have Hb5 := Aside0.mk (Ow.blk_below Hbr.out r1)
      have HS5 := Aside0.mk (HO.out.toV.below r1)
      have HG5 := Aside0.mk ((HG4.out.below HB.out).below r1)
      have HH5 := Aside0.mk ((HH.out.below HB.out).below r1)
      have Hsr := Aside0.mk hsr
      clear r1 r2 r3 hsr
      have g0 : w5.cell? ⟨g, 0, none⟩ = some (.slice A i c) := blk_cellD Hb5.out 0 _ rfl
      have g1 : w5.cell? ⟨g, 1, none⟩ = some (.slice A2 nE c2) := blk_cellD Hb5.out 1 _ rfl
      have hl0 : T.length ≤ 1000 ∧ ([] : List GE).length ≤ 1000 := ⟨HlT.out.1.1, by decide⟩
      have C1 := Aside0.mk (fun (W : World) (hb : Below w5.heap.size w5 W) => same_any v u9 (selfL i) (selfL i) W (HV.out.below hb) (HS5.out.below hb))
      have s1 : decide (selfL i = selfL i) = true := decide_eq_true rfl
      rw [s1] at C1
      have C2 := Aside0.mk (fun (W : World) (hb : Below w5.heap.size w5 W) => stable_any p T E u9 (selfL i) W (HG5.out.below hb) (HTP.out.1.below (bel_trans HB5.out hb)) (HS5.out.below hb) HlT.out.2 Hok.out.1 Hok.out.2 HlT.out.1)
      have s2 : decide (RightM T (selfL i) ∧ Stab T.length E (selfL i)) = true := decide_eq_true ⟨Hsr.out, by rw [Hn.out.1]; exact self_stab _ _⟩
      rw [s2] at C2
      have C3 := Aside0.mk (fun (W : World) (hb : Below w5.heap.size w5 W) => stable_any ph T [] (.slice A3 n3 c3) tm W (HH5.out.below hb) (HTP.out.1.below (bel_trans HB5.out hb)) (HU.out.below (bel_trans HB5.out hb)) (right_nil _) (fun a f z h => by cases h) (fun a f z h => by cases h) hl0)
      obtain ⟨B, hB⟩ : ∃ B, decide (RightM T tm) = B := ⟨_, rfl⟩
      have s3 : decide (RightM T tm ∧ Stab T.length [] tm) = B := by
        rw [← hB]
        by_cases h : RightM T tm
        · rw [decide_eq_true h]; exact decide_eq_true ⟨h, none_stab _ _⟩
        · rw [decide_eq_false h]; exact decide_eq_false (fun h2 => h h2.1)
      rw [s3] at C3
      have C4 := Aside0.mk (fun (W : World) (hb : Below w5.heap.size w5 W) => HRr.out W (bel_trans HB5.out hb) (by have := HN.out; omega))
      rw [hB] at C4
      have C5 := Aside0.mk (fun (W : World) (hb : Below w5.heap.size w5 W) => mright_any ph T [] u9 (selfL i) W (HH5.out.below hb) (HS5.out.below hb) (by have := HlT.out.1; omega))
      have s5 : decide (RightM T (selfL i)) = true := decide_eq_true Hsr.out
      rw [s5] at C5
      have hbb : (B == B) = true := by simp
      clear s1 s2 s3 hB s5 hl0
      have HBr := Below.refl w5.heap.size w5
      go_wp2_with fail
      go_region_held3 (fun W' => W'.cell? ⟨g, 0, none⟩ = some (.slice A i c) ∧ W'.cell? ⟨g, 1, none⟩ = some (.slice A2 nE c2) ∧ Below w5.heap.size w5 W') (first | (exact ⟨bel_cell HB9 g0, bel_cell HB9 g1, HB9⟩) | (refine ⟨pw_cell_below (w := w5) ?_ g0, pw_cell_below (w := w5) ?_ g1, ?_⟩ <;> simp [*]) | go_keep)
        (first
          | (go_at_call 11; (with_reducible refine (C1.out _ (by simp [*])).mono ?_); rintro e w6 ⟨rfl, r1⟩; have HB9 := bel_trans (wb := w5) (by simp [*]) r1; clear r1)
          | (go_at_call 12; (with_reducible refine (C2.out _ (by simp [*])).mono ?_); rintro e w6 ⟨rfl, r1⟩; have HB9 := bel_trans (wb := w5) (by simp [*]) r1; clear r1)
          | (go_at_call 12; (with_reducible refine (C3.out _ (by simp [*])).mono ?_); rintro e w6 ⟨rfl, r1⟩; have HB9 := bel_trans (wb := w5) (by simp [*]) r1; clear r1)
          | (go_at_call 13; (with_reducible refine (C4.out _ (by simp [*])).mono ?_); rintro e w6 ⟨rfl, r1⟩; have HB9 := bel_trans (wb := w5) (by simp [*]) r1; clear r1)
          | (go_at_call 14; (with_reducible refine (C5.out _ (by simp [*])).mono ?_); rintro e w6 ⟨rfl, r1⟩; have HB9 := bel_trans (wb := w5) (by simp [*]) r1; clear r1)
          | fail)
      all_goals go_wp2_with fail
      all_goals go_ret
      all_goals exact ⟨rfl, bel_trans HB5.out HB9⟩
end Go.Proofs.YtkpadjhdneiniaaDoor.Sb
