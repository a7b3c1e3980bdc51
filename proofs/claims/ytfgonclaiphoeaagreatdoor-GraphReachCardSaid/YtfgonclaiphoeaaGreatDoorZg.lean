/- GraphReach: its walk. -/
import Derived.Test.YtfgonclaiphoeaaGreatDoorZf
import Derived.Test.YtfgonclaiphoeaaGreatDoorZb
namespace Go.Proofs.YtfgonclaiphoeaaGreatDoor.Rf
set_option linter.unusedVariables false
open Go.RowKit Go.Proofs.YtfgonclaiphoeaaGreatDoorW.PrintWords Go.Proofs.YtfgonclaiphoeaaGreatDoorW.PrintLast Go.Proofs.YtfgonclaiphoeaaGreatDoorW.PrintMore Go.Maps
open Go.Proofs.YtfgonclaiphoeaaGreatDoor.Base Go.Proofs.YtfgonclaiphoeaaGreatDoor.Map Go.Proofs.YtfgonclaiphoeaaGreatDoor.Sl Go.Proofs.YtfgonclaiphoeaaGreatDoor.Ow Go.Proofs.YtfgonclaiphoeaaGreatDoor.Se Go.Proofs.YtfgonclaiphoeaaGreatDoor.Gr

/-! plain -/
theorem reach_idem (n : Nat) (E : List GE) (os : List Int) : reachG n E (reachG n E os) = reachG n E os := by
  refine srt_ext (srt_reachG _ _ _) (srt_reachG _ _ _) fun x => ?_
  rw [mem_reachG, mem_reachG]
  exact ⟨fun h => h.mono fun o ho _ _ => mem_reachG.1 ho, fun h => .base (mem_reachG.2 h) h.lt.1 h.lt.2⟩
theorem next_in {n : Nat} {E : List GE} {os : List Int} (hR : RightG n E) {f x : Int} (h : x ∈ nextG E f (reachG n E os)) : x ∈ reachG n E os := by
  obtain ⟨a, h1, h2⟩ := mem_nextG.1 h
  exact mem_reachG.2 (.step (mem_reachG.1 h2) h1 (hR _ h1).2.2.1 (hR _ h1).2.2.2)
theorem fields_len (E : List GE) (os : List Int) : (fieldsG E os).length ≤ E.length := by
  have h : ∀ l ns : List Int, (Sl.insL l ns).length ≤ l.length + ns.length := fun l ns => by
    induction ns generalizing l with
    | nil => simp [Sl.insL]
    | cons n ns ih =>
      have h1 : Sl.insL l (n :: ns) = Sl.insL (ins l n) ns := rfl
      have h2 := ins_len_le l n
      have h3 := ih (ins l n)
      rw [h1, List.length_cons]
      omega
  unfold fieldsG srtL
  have h1 := h [] ((E.filter fun e => os.isEmpty || os.contains e.1).map (·.2.1))
  have h2 := List.length_filter_le (fun e : GE => os.isEmpty || os.contains e.1) E
  rw [List.length_map] at h1
  simp only [List.length_nil] at h1
  omega

set_option maxHeartbeats 16000000 in
set_option maxRecDepth 100000 in
theorem reach_walk (A A2 : Option Addr) (c c2 : Nat) (T : List ByteArray) (E : List GE) (u : Value) (os : List Int) (w : World) (hT : TZ w) (hRT : RdT w A T) (hRE : RdE w A2 E) (hu : RdV w u os)
    (hok : ∀ a f z, (a, f, z) ∈ E → ok64 f) (hoa : ∀ a f z, (a, f, z) ∈ E → ok64 a) (ho : ∀ x ∈ os, ok64 x) :
    Calls Tryz.prog 5 #[.agg #[.slice A T.length c, .slice A2 E.length c2], u] w fun e w' => e = .returned (.bool true) ∧ Below w.heap.size w w' := by
  obtain ⟨A3, c3, rfl, hc3, hr3⟩ := hu
  obtain ⟨nT, hnT⟩ : ∃ n, T.length = n := ⟨_, rfl⟩
  obtain ⟨nE, hnE⟩ : ∃ n, E.length = n := ⟨_, rfl⟩
  obtain ⟨n3, hn3⟩ : ∃ n, os.length = n := ⟨_, rfl⟩
  have HU := Aside0.mk (show RdV w (.slice A3 os.length c3) os from ⟨A3, c3, rfl, hc3, hr3⟩)
  have HT := Aside0.mk hT
  have HRT := Aside0.mk hRT
  have HRE := Aside0.mk hRE
  have Hok := Aside0.mk (And.intro hok (And.intro ho hoa))
  have Hn := Aside0.mk (And.intro hnT (And.intro hnE hn3))
  rw [hnT, hnE, hn3]
  clear hT hRT hRE hok ho hoa hc3 hr3 hnT hnE hn3
  obtain ⟨w0, hw0⟩ : ∃ w0, w.alloc (.cells #[.slice A nT c, .slice A2 nE c2] 25) = w0 := ⟨_, rfl⟩
  have HB0 := Aside0.mk (show Below w.heap.size w w0 by rw [← hw0]; exact below_alloc (Below.refl _ _) _)
  have Hb0 := Aside0.mk (show w0.heap[w.heap.size]? = some (.cells #[.slice A nT c, .slice A2 nE c2] 25 (0, 0)) by rw [← hw0]; exact heap_alloc_new _ _)
  go_enter Tryz.func5, Tryz.ntmps5
  go_wp2_with fail
  clear hw0
  obtain ⟨g, hg⟩ : ∃ g, w.heap.size = g := ⟨_, rfl⟩
  have Hg := Aside0.mk hg
  rw [hg] at Hb0
  simp only [hg]
  clear hg
  refine (awake_any w0 (HT.out.below HB0.out)).mono ?_
  rintro e w1 ⟨rfl, r1⟩
  have HB1 := Aside0.mk (bel_trans HB0.out r1)
  have Hb1 := Aside0.mk (Ow.blk_below Hb0.out r1)
  have g0 : w1.cell? ⟨g, 0, none⟩ = some (.slice A nT c) := blk_cellD Hb1.out 0 _ rfl
  have g1 : w1.cell? ⟨g, 1, none⟩ = some (.slice A2 nE c2) := blk_cellD Hb1.out 1 _ rfl
  clear r1
  go_wp2_with fail
  refine (small_any A A2 nT c nE c2 w1).mono ?_
  rintro e w2 ⟨rfl, r1⟩
  have HB2 := Aside0.mk (bel_trans HB1.out r1)
  have Hb2 := Aside0.mk (Ow.blk_below Hb1.out r1)
  have g0 : w2.cell? ⟨g, 0, none⟩ = some (.slice A nT c) := blk_cellD Hb2.out 0 _ rfl
  have g1 : w2.cell? ⟨g, 1, none⟩ = some (.slice A2 nE c2) := blk_cellD Hb2.out 1 _ rfl
  clear r1
  by_cases hsm : nT ≤ 20 ∧ nE ≤ 60
  case neg =>
    have d1 : decide (nT ≤ 20 ∧ nE ≤ 60) = false := decide_eq_false hsm
    rw [d1]
    clear d1 hsm
    go_wp2_with fail
    refine (awake_any w2 (HT.out.below HB2.out)).mono ?_
    rintro e w3 ⟨rfl, r1⟩
    have HBx := Aside0.mk (bel_trans HB2.out r1)
    clear r1
    go_wp2_with fail
    go_ret
    exact ⟨rfl, HBx.out⟩
  have d1 : decide (nT ≤ 20 ∧ nE ≤ 60) = true := decide_eq_true hsm
  rw [d1]
  have Hsm := Aside0.mk hsm
  clear d1 hsm
  by_cases h3 : n3 ≤ 20
  case neg =>
    have d1 : decide ((n3 : Int) > 20) = true := decide_eq_true (by omega)
    have d2 : decide ((20 : Int) < (n3 : Int)) = true := decide_eq_true (by omega)
    have h3' : (20 : Int) < (n3 : Int) := by omega
    go_wp2_with fail
    refine (awake_any w2 (HT.out.below HB2.out)).mono ?_
    rintro e w3 ⟨rfl, r1⟩
    have HBx := Aside0.mk (bel_trans HB2.out r1)
    clear r1
    go_wp2_with fail
    go_ret
    exact ⟨rfl, HBx.out⟩
  have d1 : decide ((n3 : Int) > 20) = false := decide_eq_false (by omega)
  have d2 : decide ((20 : Int) < (n3 : Int)) = false := decide_eq_false (by omega)
  have h3' : ¬ (20 : Int) < (n3 : Int) := by omega
  have H3 := Aside0.mk h3
  clear h3
  go_wp2_with fail
  have RR := right_any A A2 nT c c2 E w2 (HRE.out.below HB2.out) (by have := Hsm.out; have := Hn.out.2.1; omega) (by have := Hsm.out; omega)
  rw [Hn.out.2.1] at RR
  refine RR.mono ?_
  clear RR
  rintro e w3 ⟨rfl, r1⟩
  have HB3 := Aside0.mk (bel_trans HB2.out r1)
  have Hb3 := Aside0.mk (Ow.blk_below Hb2.out r1)
  have g0 : w3.cell? ⟨g, 0, none⟩ = some (.slice A nT c) := blk_cellD Hb3.out 0 _ rfl
  have g1 : w3.cell? ⟨g, 1, none⟩ = some (.slice A2 nE c2) := blk_cellD Hb3.out 1 _ rfl
  clear r1
  by_cases hR : RightG nT E
  case neg =>
    have d3 : decide (RightG nT E) = false := decide_eq_false hR
    rw [d3]
    clear d3 hR
    go_wp2_with fail
    refine (awake_any w3 (HT.out.below HB3.out)).mono ?_
    rintro e w4 ⟨rfl, r1⟩
    have HBx := Aside0.mk (bel_trans HB3.out r1)
    clear r1
    go_wp2_with fail
    go_ret
    exact ⟨rfl, HBx.out⟩
  have d3 : decide (RightG nT E) = true := decide_eq_true hR
  rw [d3]
  have HR := Aside0.mk hR
  clear d3 hR d1 d2 h3'
  go_wp2_with fail
  have RN := new_any A c T A2 c2 E w3 (HRT.out.below HB3.out) (HRE.out.below HB3.out) (by rw [Hn.out.1]; have := Hsm.out; omega) (by rw [Hn.out.2.1]; have := Hsm.out; omega) Hok.out.1 (by rw [Hn.out.1]; exact HR.out)
  rw [Hn.out.2.1, Hn.out.1] at RN
  refine RN.mono ?_
  clear RN
  rintro e w4 ⟨p, lab, rfl, r1, r2⟩
  have HG := Aside0.mk (GA.mk ⟨lab, r1⟩)
  have HB4 := Aside0.mk (bel_trans HB3.out r2)
  have HNew := Aside0.mk r2
  clear r1 r2 lab g0 g1
  have HRA := Aside0.mk (reach_any p T E (.slice A3 n3 c3) os w4 HG.out (by have h := HU.out.below HB4.out; rw [Hn.out.2.2] at h; exact h) (HT.out.below HB4.out) (by rw [Hn.out.1]; exact HR.out) Hok.out.1 Hok.out.2.1 (by have h1 := H3.out; have h2 := Hn.out.2.2; rw [Hn.out.1, Hn.out.2.1]; have := Hsm.out; exact ⟨by omega, by omega, by omega⟩))
  go_wp2_with fail
  refine HRA.out.mono ?_
  rintro e w5 ⟨v7, rfl, r1, r2⟩
  rw [Hn.out.1] at r1
  have H7 := Aside0.mk (OwI.toV r1)
  have HB5 := Aside0.mk r2
  have HFA := Aside0.mk (fields_any p T E (.slice none 0 0) [] w5 (HG.out.below r2) (OwI.nil w5 0).toV Hok.out.2.2 (fun x h => by cases h) (by rw [Hn.out.2.1]; have := Hsm.out; omega) (by simp))
  clear r1 r2 HRA
  go_wp2_with fail
  refine HFA.out.mono ?_
  rintro e w6 ⟨v8, rfl, r1, r2⟩
  have H8 := Aside0.mk (OwI.toV r1)
  have H7b := Aside0.mk (H7.out.below r2)
  have HB6 := Aside0.mk (bel_trans HB5.out r2)
  clear r1 r2 HFA H7
  obtain ⟨R, hRR⟩ : ∃ R, reachG nT E os = R := ⟨_, rfl⟩
  have HRR := Aside0.mk hRR
  rw [hRR] at H7b
  have HRs := Aside0.mk (hRR ▸ sm_reach nT E os)
  have HRin := Aside0.mk (fun (f x : Int) (h : x ∈ nextG E f R) => (hRR ▸ next_in HR.out (hRR.symm ▸ h) : x ∈ R))
  have HRid := Aside0.mk (hRR ▸ reach_idem nT E os)
  clear hRR
  obtain ⟨FS, hFS⟩ : ∃ F, fieldsG E [] = F := ⟨_, rfl⟩
  have HF := Aside0.mk (show FS.length ≤ 60 ∧ ∀ f ∈ FS, ok64 f by
    rw [← hFS]
    exact ⟨Nat.le_trans (fields_len E []) (by rw [Hn.out.2.1]; exact Hsm.out.2), fun f hf => by obtain ⟨a, b, h, _⟩ := mem_fieldsG.1 hf; exact Hok.out.1 _ _ _ h⟩)
  rw [hFS] at H8
  clear hFS
  obtain ⟨A7, c7, rfl, -, -⟩ := H7b.out
  obtain ⟨A8, c8, rfl, -, -⟩ := H8.out
  obtain ⟨n7, hn7⟩ : ∃ n, R.length = n := ⟨_, rfl⟩
  obtain ⟨n8, hn8⟩ : ∃ n, FS.length = n := ⟨_, rfl⟩
  have Hn7 := Aside0.mk (And.intro hn7 hn8)
  rw [hn7, hn8]
  rw [hn7] at H7b
  rw [hn8] at H8
  clear hn7 hn8
  go_wp2_with fail
  go_loopw [9] (fun I wr => ∃ i : Nat, I = .int .i64 (i : Int) ∧ i ≤ n8 ∧ Aside0 (Below w6.heap.size w6 wr)) (fun I _ => n8 - (intOf I).toNat)
  case atStart => exact ⟨0, rfl, Nat.zero_le _, ⟨Below.refl _ _⟩⟩
  case round =>
    obtain ⟨i, rfl, hi, HBr⟩ := hrel
    have HGr := Aside0.mk (HG.out.below (bel_trans HB6.out HBr.out))
    have HTr := Aside0.mk (HT.out.below (bel_trans HB4.out (bel_trans HB6.out HBr.out)))
    have H7r := Aside0.mk (H7b.out.below HBr.out)
    by_cases hin : i < n8
    · have hnb : decide ((i : Int) < (n8 : Int)) = true := decide_eq_true (by omega)
      have hnc : decide (i < n8) = true := decide_eq_true hin
      have hil : i < FS.length := by rw [Hn7.out.2]; exact hin
      obtain ⟨A9, c9, e9, _, hr9⟩ := H8.out.below HBr.out
      injection e9 with e9a e9b e9c
      obtain ⟨ad, had, hx⟩ := hr9.at_ (i : Int) (by omega) (by omega)
      have had2 := e9a.trans had
      clear e9a e9b e9c hr9 had
      subst had2
      have hx : wr.cell? (ad.add i) = some (.int .i64 (FS.getD i 0)) := by simpa [rd] using hx
      have hfo := HF.out.2 _ (getD_memI hil)
      obtain ⟨f, hff⟩ : ∃ f, FS.getD i 0 = f := ⟨_, rfl⟩
      rw [hff] at hx hfo
      have i0 : 0 ≤ (i : Int) := by omega
      have i1 : (i : Int) < (n8 : Int) := by omega
      have i2 : (i : Int) ≤ 1000000 := by have := HF.out.1; have := Hn7.out.2; omega
      have Hin := Aside0.mk hin
      have HN := Aside0.mk (next_any p T E f _ R wr HGr.out H7r.out HTr.out hfo (fun x hx => by have := HRs.out.2 x hx; have := Hsm.out; exact ok64_of (by omega) (by omega)) (by have := HRs.out.len; have := Hsm.out; omega))
      have HS := Aside0.mk (sm_next HR.out f R)
      clear hin hi hil hff hfo
      replace i0 := eq_true i0
      replace i1 := eq_true i1
      go_wp2_with fail
      refine HN.out.mono ?_
      rintro e w7 ⟨v10, rfl, r1, r2⟩
      have H10 := Aside0.mk (OwI.toV r1)
      have H7c := Aside0.mk (H7r.out.below r2)
      have HB7 := Aside0.mk (bel_trans HBr.out r2)
      have Hmm := Aside0.mk (fun x hx => HRin.out f x hx)
      clear r1 r2 HN
      obtain ⟨L, hL⟩ : ∃ l, nextG E f R = l := ⟨_, rfl⟩
      rw [hL] at H10 Hmm HS
      obtain ⟨A10, c10, rfl, hc10, hr10⟩ := H10.out
      obtain ⟨m, hm⟩ : ∃ m, L.length = m := ⟨_, rfl⟩
      have Hr10 := Aside0.mk (And.intro hr10 hm)
      rw [hm]
      clear hL hc10 hr10 hm H10
      go_wp2_with fail
      go_loopw [11] (fun K wx => ∃ k : Nat, K = .int .i64 (k : Int) ∧ k ≤ m ∧ Aside0 (Below w7.heap.size w7 wx)) (fun K _ => m - (intOf K).toNat)
      case atStart => exact ⟨0, rfl, Nat.zero_le _, ⟨Below.refl _ _⟩⟩
      case round =>
        obtain ⟨k, rfl, hk, HBk⟩ := hrel
        by_cases hkn : k < m
        · have hnb : decide ((k : Int) < (m : Int)) = true := decide_eq_true (by omega)
          have hnc : decide (k < m) = true := decide_eq_true hkn
          have hkl : k < L.length := by rw [Hr10.out.2]; exact hkn
          obtain ⟨ad2, rfl, hy⟩ := (Hr10.out.1.below HBk.out).at_ (k : Int) (by omega) (by omega)
          have hy : wr.cell? (ad2.add k) = some (.int .i64 (L.getD k 0)) := by simpa [rd] using hy
          have hmem := Hmm.out _ (getD_memI hkl)
          obtain ⟨y, hyy⟩ : ∃ y, L.getD k 0 = y := ⟨_, rfl⟩
          rw [hyy] at hy hmem
          have k0 : 0 ≤ (k : Int) := by omega
          have k1 : (k : Int) < (m : Int) := by omega
          have k2 : (k : Int) ≤ 1000000 := by have := HS.out.len; have := Hsm.out; have := Hr10.out.2; omega
          have Hk := Aside0.mk hkn
          have Hm := Aside0.mk (decide_eq_true hmem)
          have HH := Aside0.mk (has_any _ R y wr (H7c.out.below HBk.out))
          clear hkn hk hkl hyy hmem
          replace k0 := eq_true k0
          replace k1 := eq_true k1
          go_wp2_with fail
          refine HH.out.mono ?_
          rintro e w8 ⟨rfl, r2⟩
          rw [Hm.out]
          have HB8 := Aside0.mk (bel_trans HBk.out r2)
          clear r2 HH
          go_wp2_with fail
          go_roundw
          case rel => exact ⟨k + 1, by go_num, Hk.out, HB8⟩
          case measure => have := Hk.out; simp [intOf]; omega
        · have hnb : decide ((k : Int) < (m : Int)) = false := decide_eq_false (by omega)
          have hnc : decide (k < m) = false := decide_eq_false hkn
          obtain rfl : k = m := by omega
          have HBe := Aside0.mk (bel_trans HB7.out HBk.out)
          clear hkn hk
          go_wp2_with fail
          go_roundw
          case rel => exact ⟨i + 1, by go_num, Hin.out, HBe⟩
          case measure => have := Hin.out; simp [intOf]; omega
    · have hnb : decide ((i : Int) < (n8 : Int)) = false := decide_eq_false (by omega)
      have hnc : decide (i < n8) = false := decide_eq_false hin
      obtain rfl : i = n8 := by omega
      clear hin hi
      have HN := Aside0.mk (reach_any p T E _ R wr HGr.out H7r.out HTr.out (by rw [Hn.out.1]; exact HR.out) Hok.out.1 (fun x hx => by have := HRs.out.2 x hx; have := Hsm.out; exact ok64_of (by omega) (by omega)) (by have := HRs.out.len; rw [Hn.out.1, Hn.out.2.1]; have := Hsm.out; exact ⟨by omega, by omega, by omega⟩))
      go_wp2_with fail
      refine HN.out.mono ?_
      rintro e w7 ⟨v7, rfl, r1, r2⟩
      rw [Hn.out.1, HRid.out] at r1
      have H9 := Aside0.mk (OwI.toV r1)
      have H7c := Aside0.mk (H7r.out.below r2)
      have HB7 := Aside0.mk (bel_trans HBr.out r2)
      clear r1 r2 HN
      go_wp2_with fail
      refine (same_any _ _ _ _ w7 H9.out H7c.out).mono ?_
      rintro e w8 ⟨rfl, r2⟩
      have d5 : decide (R = R) = true := decide_eq_true rfl
      rw [d5]
      have HB8 := Aside0.mk (bel_trans HB6.out (bel_trans HB7.out r2))
      have H7d := Aside0.mk (H7c.out.below r2)
      have Hb8 := Aside0.mk (Ow.blk_below Hb3.out (bel_trans HNew.out HB8.out))
      have g0 : w8.cell? ⟨g, 0, none⟩ = some (.slice A nT c) := blk_cellD Hb8.out 0 _ rfl
      have g1 : w8.cell? ⟨g, 1, none⟩ = some (.slice A2 nE c2) := blk_cellD Hb8.out 1 _ rfl
      have HU8 := Aside0.mk (HU.out.below (bel_trans HB4.out HB8.out))
      rw [Hn.out.2.2] at HU8
      have RRx := rreach_any A A2 nT c c2 E _ os w8 (HRE.out.below (bel_trans HB4.out HB8.out)) HU8.out HR.out (by have h1 := H3.out; have h2 := Hn.out.2.2; rw [Hn.out.2.1]; have := Hsm.out; exact ⟨by omega, by omega, by omega⟩)
      rw [Hn.out.2.1, HRR.out] at RRx
      have HRX := Aside0.mk RRx
      clear r2 d5 RRx
      go_wp2_with fail
      refine HRX.out.mono ?_
      rintro e w9 ⟨v9, rfl, r1, r2⟩
      have HM := Aside0.mk (minus_none v9 _ R R w9 r1 (H7d.out.below r2) (fun x h => h) (by have := HRs.out.len; have := Hsm.out; omega))
      have HB9 := Aside0.mk (bel_trans HB4.out (bel_trans HB8.out r2))
      clear r1 r2 HRX
      go_wp2_with fail
      refine HM.out.mono ?_
      rintro e w10 ⟨rfl, r2⟩
      have HB10 := Aside0.mk (bel_trans HB9.out r2)
      clear r2 HM
      go_wp2_with fail
      go_ret
      exact ⟨rfl, HB10.out⟩
end Go.Proofs.YtfgonclaiphoeaaGreatDoor.Rf
