/- NodeKinds' walk. -/
import Derived.Test.YtkbbliicijnpjaaDoorVh
namespace Go.Proofs.YtkbbliicijnpjaaDoor.Tx
open Go.RowKit Go.Proofs.YtkbbliicijnpjaaDoorW.PrintWords Go.Proofs.YtkbbliicijnpjaaDoorW.PrintLast Go.Proofs.YtkbbliicijnpjaaDoorW.PrintMore
open Go.Proofs.YtkbbliicijnpjaaDoor.Base Go.Proofs.YtkbbliicijnpjaaDoor.Map Go.Proofs.YtkbbliicijnpjaaDoor.Ca Go.Proofs.YtkbbliicijnpjaaDoor.Qu Go.Proofs.YtkbbliicijnpjaaDoor.In Go.Proofs.YtkbbliicijnpjaaDoor.Kx Go.Maps Go.Proofs.YtkbbliicijnpjaaDoor.PNodeIds
set_option linter.unusedVariables false

theorem cell_bel {w w1 : World} {a : Addr} {v : Value} (hb : Below w.heap.size w w1) (h : w.cell? a = some v) : w1.cell? a = some v := (hb.cell (World.block_lt_of_cell? w _ h)).trans h
set_option maxHeartbeats 8000000 in
set_option maxRecDepth 100000 in
theorem nodeKinds_walk (A : Option Addr) (l : List S46) (c : Nat) (w : World) (hl : RdN w A l) (hc : l.length ≤ c) (hP : P10 w) (hok : ∀ x ∈ l, okS x) :
    Calls Tryd.prog 6 #[.slice A l.length c] w fun e w' => e = .returned (.bool true) ∧ Below w.heap.size w w' := by
  have HP := Aside0.mk hP
  have HL := Aside0.mk hl
  have HO := Aside0.mk hok
  clear hP hl hok
  by_cases h60 : (60 : Int) < l.length
  · have d1 : decide ((l.length : Int) > 60) = true := decide_eq_true (by omega)
    have d2 : decide (60 < l.length) = true := decide_eq_true (by omega)
    go_enter Tryd.func6, Tryd.ntmps6
    go_wp2_with fail
    refine (awakeN_any w HP.out).mono ?_
    rintro e w1 ⟨rfl, h1⟩
    go_wp2_with fail
    refine (awakeN_any w1 (HP.out.below h1)).mono ?_
    rintro e w2 ⟨rfl, h2⟩
    go_wp2
    go_ret
    exact ⟨rfl, bel_trans h1 h2⟩
  have d1 : decide ((l.length : Int) > 60) = false := decide_eq_false (by omega)
  have d2 : decide (60 < l.length) = false := decide_eq_false (by omega)
  have d3 : decide ((60 : Int) < l.length) = false := decide_eq_false (by omega)
  have Hl := Aside0.mk (show l.length ≤ 60 by omega)
  clear h60
  go_enter Tryd.func6, Tryd.ntmps6
  go_wp2_with fail
  refine (awakeN_any w HP.out).mono ?_
  rintro e w1 ⟨rfl, h1⟩
  go_wp2_with fail
  refine (new_ct w w1 h1).mono ?_
  rintro e w2 ⟨q, p1, p2, rfl, h2⟩
  have hb2 := Aside0.mk h2.bel
  clear h1 h2
  go_wp2_with fail
  refine (newNodes w w2 q hb2.out).mono ?_
  rintro e w3 ⟨x, p, rfl, hN, -, -⟩
  clear hb2 HP
  go_wp2_with fail
  have HN := Aside0.mk hN
  clear hN
  go_loopw [5, 6, 7, 8, 9] (fun I _ _ _ _ wr => ∃ (i : Nat) (tl : List (List Int)), I = .int .i64 (i : Int) ∧ i ≤ l.length ∧ tl.length ≤ i ∧ Aside0 (NK w wr x p q tl)) (fun I _ _ _ _ _ => l.length - (intOf I).toNat)
  case atStart => exact ⟨0, [], rfl, Nat.zero_le _, Nat.le_refl _, HN⟩
  case round =>
    clear HN
    obtain ⟨i, tl, rfl, hi, htl, HN⟩ := hrel
    by_cases hin : i < l.length
    · have hnb : decide ((i : Int) < (l.length : Int)) = true := decide_eq_true (by omega)
      have hnc : decide (i < l.length) = true := decide_eq_true hin
      obtain ⟨ad, rfl, e0, e1, e2, e3⟩ := at_T46 HL.out.out (i : Int) (by omega) (by omega)
      have hsx : okS (rd_T46 l (i : Int)) := HO.out _ (by
        unfold rd_T46
        rw [List.getD, List.getElem?_eq_getElem (by simpa using hin)]
        exact List.getElem_mem _)
      generalize rd_T46 l (i : Int) = s at e0 e1 e2 e3 hsx
      obtain ⟨k, a, b, d⟩ := s
      obtain ⟨ha, hb, hd⟩ := hsx
      have e0 : w.cell? (ad.add (i * 4)) = some (.int .i64 k) := e0
      have e1 : w.cell? ⟨(ad.add (i * 4)).block, (ad.add (i * 4)).off + 1, none⟩ = some (.int .i64 a) := e1
      have e2 : w.cell? ⟨(ad.add (i * 4)).block, (ad.add (i * 4)).off + 2, none⟩ = some (.int .i64 b) := e2
      have e3 : w.cell? ⟨(ad.add (i * 4)).block, (ad.add (i * 4)).off + 3, none⟩ = some (.int .i64 d) := e3
      have i0 : 0 ≤ (i : Int) := by omega
      have i1 : (i : Int) < (l.length : Int) := by omega
      have hw : Aside0 (wrap64 ((i : Int) + 1) = ((i + 1 : Nat) : Int)) := ⟨by have := Hl.out; unfold wrap64; omega⟩
      have Hin := Aside0.mk hin
      have Htl := Aside0.mk htl
      have HE := Aside0.mk (And.intro e0 (And.intro e1 (And.intro e2 e3)))
      have HA := Aside0.mk (And.intro ha (And.intro hb hd))
      obtain ⟨L, hL⟩ : ∃ L, lenN tl [] = L := ⟨_, rfl⟩
      have HLn := Aside0.mk hL
      have hbd := lenN_bd tl [] (by have := Hl.out; omega)
      rw [hL] at hbd
      have Hbd := Aside0.mk hbd
      have Hrd := Aside0.mk (node_round tl k a b d)
      have Htn := Aside0.mk (tlN_len tl k a b d)
      clear hin hi htl e0 e1 e2 e3 ha hb hd hL hbd
      replace i0 := eq_true i0
      replace i1 := eq_true i1
      go_wp2_with fail
      refine (len_nk w wr x p q tl _ [] HN.out (RdV.nil _) (by have := Hl.out; have := Htl.out; have := Hin.out; omega)).mono ?_
      rintro e w4 ⟨rfl, h4⟩
      rw [HLn.out]
      have HN4 := Aside0.mk (HN.out.below h4)
      have HB4 := Aside0.mk (HN4.out.bel)
      have c0 := cell_bel HB4.out HE.out.1
      have c1 := cell_bel HB4.out HE.out.2.1
      have c2 := cell_bel HB4.out HE.out.2.2.1
      have c3 := cell_bel HB4.out HE.out.2.2.2
      clear h4
      go_wp2_with fail
      refine (find_nk w w4 x p q tl k a b d HN4.out HA.out.1 HA.out.2.1 HA.out.2.2).mono ?_
      rintro e w5 ⟨rfl, h5⟩
      have HN5 := Aside0.mk (HN4.out.below h5)
      have HB5 := Aside0.mk (HN5.out.bel)
      clear c0 c1 c2 c3 h5
      have c0 := cell_bel HB5.out HE.out.1
      have c1 := cell_bel HB5.out HE.out.2.1
      have c2 := cell_bel HB5.out HE.out.2.2.1
      have c3 := cell_bel HB5.out HE.out.2.2.2
      go_wp2_with fail
      refine (id_nk w w5 x p q tl k a b d HN5.out HA.out.1 HA.out.2.1 HA.out.2.2 (by have := Hl.out; have := Htl.out; have := Hin.out; omega)).mono ?_
      rintro e w6 ⟨rfl, h6⟩
      clear c0 c1 c2 c3
      have HN6 := Aside0.mk h6
      clear h6
      obtain ⟨z, hz⟩ : ∃ z, idN tl k a b d = z := ⟨_, rfl⟩
      obtain ⟨tl2, ht2⟩ : ∃ t, tlN tl k a b d = t := ⟨_, rfl⟩
      obtain ⟨f1, f2, hf⟩ : ∃ f1 f2, findN tl k a b d = (f1, f2) := ⟨_, _, rfl⟩
      rw [ht2] at HN6 Htn
      have Hr2 := Hrd.out
      rw [hz, ht2, hf] at Hr2
      have h62 : tl2.length ≤ 1000 := by have := Hl.out; have := Htl.out; have := Hin.out; have := Htn.out; omega
      have H62 := Aside0.mk h62
      rw [hz, hf]
      clear hz ht2 hf h62 Hrd
      rcases Hr2 with ⟨-, rfl, h4⟩ | ⟨-, hz0, h3, h4⟩ | ⟨-, hz0, h3, h4, h5⟩
      · have HLn2 : Aside0 (lenN tl2 [] = L) := ⟨by rw [h4]; exact HLn.out⟩
        have Ht : Aside0 (tl2.length ≤ i + 1) := ⟨by have := Htl.out; have := Htn.out; omega⟩
        clear h4
        go_wp2_with fail
        refine (len_nk w w6 x p q tl2 _ [] HN6.out (RdV.nil _) H62.out).mono ?_
        rintro e w7 ⟨rfl, h7⟩
        rw [HLn2.out]
        have HN7 := Aside0.mk (HN6.out.below h7)
        go_wp2_with fail
        go_roundw
        case rel => exact ⟨i + 1, tl2, by rw [hw.out], Hin.out, Ht.out, HN7⟩
        case measure => exact msr hw.out Hin.out
      · have HLn2 : Aside0 (lenN tl2 [] = L) := ⟨by rw [h4]; exact HLn.out⟩
        have Ht : Aside0 (tl2.length ≤ i + 1) := ⟨by have := Htl.out; have := Htn.out; omega⟩
        have h3 : f2 = true := h3
        subst h3
        have z1 : decide (z ≥ 0) = true := decide_eq_true hz0
        have z2 : decide (z < 0) = false := decide_eq_false (by omega)
        have z3 : decide (0 ≤ z) = true := decide_eq_true hz0
        have z4 : ¬ z < 0 := by omega
        replace hz0 := eq_true hz0
        clear h4
        go_wp2_with fail
        refine (len_nk w w6 x p q tl2 _ [] HN6.out (RdV.nil _) H62.out).mono ?_
        rintro e w7 ⟨rfl, h7⟩
        rw [HLn2.out]
        have HN7 := Aside0.mk (HN6.out.below h7)
        go_wp2_with fail
        go_roundw
        case rel => exact ⟨i + 1, tl2, by rw [hw.out], Hin.out, Ht.out, HN7⟩
        case measure => exact msr hw.out Hin.out
      · have hL1 : lenN tl2 [] = L + 1 := by rw [h4, h5, HLn.out]
        have HLn2 := Aside0.mk hL1
        have Ht : Aside0 (tl2.length ≤ i + 1) := ⟨by have := Htl.out; have := Htn.out; omega⟩
        have h3 : f2 = false := h3
        subst h3
        have z1 : decide (z ≥ 0) = true := decide_eq_true hz0
        have z2 : decide (z < 0) = false := decide_eq_false (by omega)
        have z3 : decide (0 ≤ z) = true := decide_eq_true hz0
        have z4 : ¬ z < 0 := by omega
        have y1 : wrap64 (L + 1) = L + 1 := by have := Hbd.out; unfold wrap64; omega
        have y2 : IntKind.i64.wrap (L + 1) = L + 1 := (i64_w _).trans y1
        have y3 : (L + 1 == L) = false := by rw [beq_eq_false_iff_ne]; omega
        have y4 : (L + 1 != L) = true := by rw [bne, y3]; rfl
        replace hz0 := eq_true hz0
        clear h4 h5 hL1
        go_wp2_with fail
        refine (len_nk w w6 x p q tl2 _ [] HN6.out (RdV.nil _) H62.out).mono ?_
        rintro e w7 ⟨rfl, h7⟩
        rw [HLn2.out]
        have HN7 := Aside0.mk (HN6.out.below h7)
        go_wp2_with fail
        refine (len_nk w w7 x p q tl2 _ [] HN7.out (RdV.nil _) H62.out).mono ?_
        rintro e w8 ⟨rfl, h8⟩
        rw [HLn2.out]
        have HN8 := Aside0.mk (HN7.out.below h8)
        go_wp2_with fail
        go_roundw
        case rel => exact ⟨i + 1, tl2, by rw [hw.out], Hin.out, Ht.out, HN8⟩
        case measure => exact msr hw.out Hin.out
    · have hnb : decide ((i : Int) < (l.length : Int)) = false := decide_eq_false (by omega)
      have hnc : decide (i < l.length) = false := decide_eq_false hin
      have H62 : Aside0 (tl.length ≤ 1000) := ⟨by have := Hl.out; omega⟩
      clear hin hi htl
      go_wp2_with fail
      go_loopw [10, 11] (fun S K wr2 => ∃ j : Nat, K = .int .i64 (j : Int) ∧ j ≤ 5 ∧ S = .int .i64 (sumK tl j) ∧ Aside0 (NK w wr2 x p q tl)) (fun _ K _ => 5 - (intOf K).toNat)
      case atStart => exact ⟨0, rfl, by decide, rfl, HN⟩
      case round =>
        clear HN
        obtain ⟨j, rfl, hj, rfl, HN⟩ := hrel
        obtain ⟨S, hS⟩ : ∃ S, sumK tl j = S := ⟨_, rfl⟩
        have HS := Aside0.mk hS
        rw [hS]
        by_cases hjn : j < 5
        · have hnb : decide ((j : Int) < 5) = true := decide_eq_true (by omega)
          have hnc : decide (j < 5) = true := decide_eq_true hjn
          have h1 : lenN tl [(j : Int)] = cntK tl (j : Int) := lenN_one tl j hjn
          have hbd := sumK_bd tl (j + 1) (by omega)
          rw [sumK, hS] at hbd
          have hws : Aside0 (wrap64 (S + cntK tl (j : Int)) = S + cntK tl (j : Int)) := ⟨by have := H62.out; unfold wrap64; omega⟩
          have hw : Aside0 (wrap64 ((j : Int) + 1) = ((j + 1 : Nat) : Int)) := ⟨by unfold wrap64; omega⟩
          have Hin := Aside0.mk hjn
          have H1 := Aside0.mk h1
          obtain ⟨HL1, hL1⟩ : ∃ x : Aside0 (RdV (wr.alloc (.cells #[.int .i64 (j : Int)] 3)) (.slice (some ⟨wr.heap.size, 0, none⟩) 1 1) [(j : Int)]), True := ⟨⟨(OwI.lit wr [(j : Int)] (by simp)).toV⟩, trivial⟩
          have hal : Below wr.heap.size wr (wr.alloc (.cells #[.int .i64 (j : Int)] 3)) := below_alloc (Below.refl _ _) _
          have HN2 := Aside0.mk (HN.out.below hal)
          clear hbd hS hj hjn hL1 h1 hal
          go_wp2_with fail
          refine (len_nk w _ x p q tl _ [(j : Int)] HN2.out HL1.out H62.out).mono ?_
          rintro e w7 ⟨rfl, h7⟩
          rw [H1.out]
          have HN7 := Aside0.mk (HN2.out.below h7)
          go_wp2_with fail
          go_roundw
          case rel => exact ⟨j + 1, by rw [hw.out], Hin.out, by rw [hws.out, sumK, HS.out], HN7⟩
          case measure => exact msr hw.out Hin.out
        · have hnb : decide ((j : Int) < 5) = false := decide_eq_false (by omega)
          have hnc : decide (j < 5) = false := decide_eq_false hjn
          obtain rfl : j = 5 := by omega
          have hS5 : lenN tl [] = S := by rw [← sumK_5, hS]
          have hSa : lenN tl [0, 1, 2, 3, 4] = S := by rw [lenN_all, hS5]
          have H5 := Aside0.mk hS5
          have HA5 := Aside0.mk hSa
          clear hS hS5 hSa hjn hj HS
          go_wp2_with fail
          refine (len_nk w wr x p q tl _ [] HN.out (RdV.nil _) H62.out).mono ?_
          rintro e w7 ⟨rfl, h7⟩
          rw [H5.out]
          have HN7 := Aside0.mk (HN.out.below h7)
          have HL1 := Aside0.mk (OwI.lit w7 [0, 1, 2, 3, 4] (by simp)).toV
          have hal : Below w7.heap.size w7 (w7.alloc (.cells #[.int .i64 0, .int .i64 1, .int .i64 2, .int .i64 3, .int .i64 4] 3)) := below_alloc (Below.refl _ _) _
          have HN2 := Aside0.mk (HN7.out.below hal)
          clear hal h7
          go_wp2_with fail
          refine (len_nk w _ x p q tl _ [0, 1, 2, 3, 4] HN2.out HL1.out H62.out).mono ?_
          rintro e w8 ⟨rfl, h8⟩
          rw [HA5.out]
          go_wp2_with fail
          go_ret
          exact ⟨by simp, (HN2.out.below h8).bel⟩
end Go.Proofs.YtkbbliicijnpjaaDoor.Tx
