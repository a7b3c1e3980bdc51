/- NodeIds' walk. -/
import Derived.Test.YtkbbliicijnpjaaDoorVo
namespace Go.Proofs.YtkbbliicijnpjaaDoor.Tx
open Go.RowKit Go.Proofs.YtkbbliicijnpjaaDoorW.PrintWords Go.Proofs.YtkbbliicijnpjaaDoorW.PrintLast Go.Proofs.YtkbbliicijnpjaaDoorW.PrintMore
open Go.Proofs.YtkbbliicijnpjaaDoor.Base Go.Proofs.YtkbbliicijnpjaaDoor.Map Go.Proofs.YtkbbliicijnpjaaDoor.Ca Go.Proofs.YtkbbliicijnpjaaDoor.Qu Go.Proofs.YtkbbliicijnpjaaDoor.In Go.Proofs.YtkbbliicijnpjaaDoor.Kx Go.Maps Go.Proofs.YtkbbliicijnpjaaDoor.PNodeIds
set_option linter.unusedVariables false

theorem cell_bel {w w1 : World} {a : Addr} {v : Value} (hb : Below w.heap.size w w1) (h : w.cell? a = some v) : w1.cell? a = some v := (hb.cell (World.block_lt_of_cell? w _ h)).trans h
attribute [local go_sem high] eqA46
theorem inK_take (ks : List Int) (x : Int) (j : Nat) (h : j < ks.length) : (ks.isEmpty || decide (x ∈ ks.take (j + 1))) = ((ks.isEmpty || decide (x ∈ ks.take j)) || (rd ks (j : Int) == x)) := by
  have e : rd ks (j : Int) = ks[j] := by simp [rd, List.getD, h]
  have hm : (x ∈ ks.take (j + 1)) ↔ (x ∈ ks.take j ∨ x = ks[j]) := by rw [List.take_succ_eq_append_getElem h, List.mem_append, List.mem_singleton]
  rw [e]
  simp only [hm]
  cases hk : ks.isEmpty with
  | true => rfl
  | false =>
    by_cases h1 : x ∈ ks.take j
    · simp [h1]
    · by_cases h2 : x = ks[j]
      · simp [h2]
      · have h3 : ¬ ks[j] = x := fun e => h2 e.symm
        simp [h1, h2, h3]
theorem inK_start (ks : List Int) (x : Int) : (ks.isEmpty || decide (x ∈ ks.take 0)) = ((ks.length : Int) == 0) := by
  cases ks with
  | nil => rfl
  | cons a t => simp; omega
theorem inK_end (ks : List Int) (x : Int) : (ks.isEmpty || decide (x ∈ ks.take ks.length)) = inK ks x := by
  rw [List.take_length]; rfl
set_option maxHeartbeats 8000000 in
set_option maxRecDepth 100000 in
theorem nodeIds_walk (A : Option Addr) (l : List S46) (c : Nat) (ak aa ab ac : Int) (A2 : Option Addr) (ks : List Int) (c2 : Nat) (w : World) (hl : RdN w A l) (hc : l.length ≤ c) (hP : P10 w) (hok : ∀ x ∈ l, okS x) (haa : (Lit.int .i64 aa).wf = true) (hab : (Lit.int .i64 ab).wf = true) (hac : (Lit.int .i64 ac).wf = true) (hks : RdI w A2 ks) (hc2 : ks.length ≤ c2) :
    Calls Tryd.prog 7 #[.slice A l.length c, .agg #[.int .i64 ak, .int .i64 aa, .int .i64 ab, .int .i64 ac], .slice A2 ks.length c2] w fun e w' => e = .returned (.bool true) ∧ Below w.heap.size w w' := by
  have HP := Aside0.mk hP
  have HL := Aside0.mk hl
  have HO := Aside0.mk hok
  have HKs := Aside0.mk hks
  have HAW := Aside0.mk (And.intro haa (And.intro hab hac))
  obtain ⟨g, hg⟩ : ∃ g, w.heap.size = g := ⟨_, rfl⟩
  have hwb : ∀ wb, w.alloc (.cells #[.int .i64 ak, .int .i64 aa, .int .i64 ab, .int .i64 ac] 46) = wb → wb.heap[g]? = some (.cells #[.int .i64 ak, .int .i64 aa, .int .i64 ab, .int .i64 ac] 46 (0, 0)) ∧ Below w.heap.size w wb := by
    rintro wb rfl
    subst hg
    exact ⟨heap_alloc_new _ _, below_alloc (Below.refl _ _) _⟩
  have Hg := Aside0.mk hg
  clear hP hl hok hks haa hab hac
  by_cases hbig : 60 < l.length ∨ 8 < ks.length
  · have HBg := Aside0.mk hbig
    clear hbig
    go_enter Tryd.func7, Tryd.ntmps7
    go_upto_region 1 with (fail)
    clear hg
    generalize hqw : w.alloc (.cells #[.int .i64 ak, .int .i64 aa, .int .i64 ab, .int .i64 ac] 46) = wb
    obtain ⟨B0, hB⟩ := hwb wb hqw
    clear hwb hqw
    have HB := Aside0.mk hB
    clear B0 hB
    go_wp2_with fail
    refine (awakeN_any wb (HP.out.below HB.out)).mono ?_
    rintro e w1 ⟨rfl, h1⟩
    by_cases h60 : (60 : Int) < l.length
    · have d1 : decide ((l.length : Int) > 60) = true := decide_eq_true (by omega)
      have d2 : decide (60 < l.length) = true := decide_eq_true (by omega)
      go_wp2_with fail
      refine (awakeN_any w1 (HP.out.below (below_then HB.out HB.out.size h1))).mono ?_
      rintro e w2 ⟨rfl, h2⟩
      go_wp2
      go_ret
      exact ⟨rfl, below_then HB.out HB.out.size (bel_trans h1 h2)⟩
    · have d1 : decide ((l.length : Int) > 60) = false := decide_eq_false (by omega)
      have d2 : decide (60 < l.length) = false := decide_eq_false (by omega)
      have d3 : decide ((ks.length : Int) > 8) = true := decide_eq_true (by have := HBg.out; omega)
      have d4 : decide (8 < ks.length) = true := decide_eq_true (by have := HBg.out; omega)
      go_wp2_with fail
      refine (awakeN_any w1 (HP.out.below (below_then HB.out HB.out.size h1))).mono ?_
      rintro e w2 ⟨rfl, h2⟩
      go_wp2
      go_ret
      exact ⟨rfl, below_then HB.out HB.out.size (bel_trans h1 h2)⟩
  have d1 : decide ((l.length : Int) > 60) = false := decide_eq_false (by omega)
  have d2 : decide (60 < l.length) = false := decide_eq_false (by omega)
  have d3 : decide ((60 : Int) < l.length) = false := decide_eq_false (by omega)
  have d4 : decide ((ks.length : Int) > 8) = false := decide_eq_false (by omega)
  have d5 : decide (8 < ks.length) = false := decide_eq_false (by omega)
  have d6 : decide ((8 : Int) < ks.length) = false := decide_eq_false (by omega)
  have Hl := Aside0.mk (show l.length ≤ 60 by omega)
  have Hk := Aside0.mk (show ks.length ≤ 8 by omega)
  clear hbig
  go_enter Tryd.func7, Tryd.ntmps7
  go_upto_region 1 with (fail)
  clear hg
  generalize hqw : w.alloc (.cells #[.int .i64 ak, .int .i64 aa, .int .i64 ab, .int .i64 ac] 46) = wb
  obtain ⟨B0, hB⟩ := hwb wb hqw
  clear hwb hqw
  have HB := Aside0.mk hB
  have HG0 := Aside0.mk B0
  clear B0 hB
  go_wp2_with fail
  refine (awakeN_any wb (HP.out.below HB.out)).mono ?_
  rintro e w1 ⟨rfl, h1⟩
  go_wp2_with fail
  refine (new_ct wb w1 h1).mono ?_
  rintro e w2 ⟨q, p1, p2, rfl, h2⟩
  have hb2 := Aside0.mk h2.bel
  clear h1 h2
  go_wp2_with fail
  refine (newNodes wb w2 q hb2.out).mono ?_
  rintro e w3 ⟨x, p, rfl, hN, -, -⟩
  clear hb2 HP
  go_wp2_with fail
  have HN := Aside0.mk (NS.start hN)
  clear hN
  have HL2 := Aside0.mk (HL.out.below HB.out)
  have HK2 := Aside0.mk (HKs.out.below HB.out)
  clear HL HKs
  go_loopw [9, 10, 11, 12, 13] (fun V I _ _ _ wr => ∃ (i : Nat) (all : List S46), I = .int .i64 (i : Int) ∧ i ≤ l.length ∧ all.length ≤ i ∧ Aside0 (NS wb wr x p q (all.map toT) V all) ∧ Aside0 (okAll all)) (fun _ I _ _ _ _ => l.length - (intOf I).toNat)
  case atStart => exact ⟨0, [], rfl, Nat.zero_le _, Nat.le_refl _, HN, ⟨fun s hs => absurd hs (by simp)⟩⟩
  case round =>
    clear HN
    obtain ⟨i, all, rfl, hi, htl, HN, HOA⟩ := hrel
    obtain ⟨Av, cv, rfl, hcv, hrv⟩ := HN.out.rd
    have HRv := Aside0.mk hrv
    clear hrv
    by_cases hin : i < l.length
    · have hnb : decide ((i : Int) < (l.length : Int)) = true := decide_eq_true (by omega)
      have hnc : decide (i < l.length) = true := decide_eq_true hin
      obtain ⟨ad, rfl, e0, e1, e2, e3⟩ := at_T46 HL2.out.out (i : Int) (by omega) (by omega)
      have hsx : okS (rd_T46 l (i : Int)) := HO.out _ (by
        unfold rd_T46
        rw [List.getD, List.getElem?_eq_getElem (by simpa using hin)]
        exact List.getElem_mem _)
      generalize rd_T46 l (i : Int) = s at e0 e1 e2 e3 hsx
      obtain ⟨k, a, b, d⟩ := s
      obtain ⟨ha, hb, hd⟩ := hsx
      have e0 : wb.cell? (ad.add (i * 4)) = some (.int .i64 k) := e0
      have e1 : wb.cell? ⟨(ad.add (i * 4)).block, (ad.add (i * 4)).off + 1, none⟩ = some (.int .i64 a) := e1
      have e2 : wb.cell? ⟨(ad.add (i * 4)).block, (ad.add (i * 4)).off + 2, none⟩ = some (.int .i64 b) := e2
      have e3 : wb.cell? ⟨(ad.add (i * 4)).block, (ad.add (i * 4)).off + 3, none⟩ = some (.int .i64 d) := e3
      have i0 : 0 ≤ (i : Int) := by omega
      have i1 : (i : Int) < (l.length : Int) := by omega
      have hw : Aside0 (wrap64 ((i : Int) + 1) = ((i + 1 : Nat) : Int)) := ⟨by have := Hl.out; unfold wrap64; omega⟩
      have Hin := Aside0.mk hin
      have Htl := Aside0.mk htl
      have HE := Aside0.mk (And.intro e0 (And.intro e1 (And.intro e2 e3)))
      have HA := Aside0.mk (And.intro ha (And.intro hb hd))
      obtain ⟨r1, r2, r3, r4, r5, hpl⟩ : ∃ r1 r2 r3 r4 r5, pl k a b d = (r1, r2, r3, r4, r5) := ⟨_, _, _, _, _, rfl⟩
      have HR := Aside0.mk (ids_round all k a b d r1 r2 r3 r4 r5 hpl HOA.out)
      have Hpl := Aside0.mk hpl
      have c0 := cell_bel HN.out.bel HE.out.1
      have c1 := cell_bel HN.out.bel HE.out.2.1
      have c2 := cell_bel HN.out.bel HE.out.2.2.1
      have c3 := cell_bel HN.out.bel HE.out.2.2.2
      clear hin hi htl e0 e1 e2 e3 ha hb hd hpl
      replace i0 := eq_true i0
      replace i1 := eq_true i1
      go_wp2_with fail
      refine (refPlain_any k a b d wr).mono ?_
      rintro e w4 ⟨rfl, h4⟩
      rw [Hpl.out]
      have HN4 := Aside0.mk (HN.out.below h4)
      have HRv4 := Aside0.mk (HRv.out.below h4)
      clear h4 c0 c1 c2 c3
      go_upto_region 11 with (fail)
      have hal := below_alloc (Below.refl w4.heap.size w4) (.cells #[.int .i64 r1, .int .i64 r2, .int .i64 r3, .int .i64 r4] 46)
      have B5 := heap_alloc_new w4 (.cells #[.int .i64 r1, .int .i64 r2, .int .i64 r3, .int .i64 r4] 46)
      have HN5 := Aside0.mk (HN4.out.below hal)
      have HRv5 := Aside0.mk (HRv4.out.below hal)
      clear hal HN4 HRv4
      generalize w4.alloc (.cells #[.int .i64 r1, .int .i64 r2, .int .i64 r3, .int .i64 r4] 46) = w5 at *
      generalize w4.heap.size = g5 at *
      have HB5 := Aside0.mk B5
      clear B5
      have c0 := cell_bel HN5.out.bel HE.out.1
      have c1 := cell_bel HN5.out.bel HE.out.2.1
      have c2 := cell_bel HN5.out.bel HE.out.2.2.1
      have c3 := cell_bel HN5.out.bel HE.out.2.2.2
      obtain ⟨z, hz⟩ : ∃ z, findS (all.map toT) k a b d = z := ⟨_, rfl⟩
      have Hz := Aside0.mk hz
      clear hz
      go_wp2_with fail
      refine (refFind_any Av cv all k a b d w5 HRv5.out hcv (by have := Hl.out; have := Htl.out; have := Hin.out; omega)).mono ?_
      rintro e w6 ⟨rfl, h6⟩
      rw [Hz.out]
      have HN6 := Aside0.mk (HN5.out.below h6)
      have HRv6 := Aside0.mk (HRv5.out.below h6)
      have HB6 := Aside0.mk (blk_below' HB5.out h6)
      clear c0 c1 c2 c3 h6
      have hR := HR.out
      rw [Hz.out] at hR
      have hlen2 : Aside0 ((all.map toT).length ≤ 1000) := ⟨by rw [List.length_map]; have := Hl.out; have := Htl.out; have := Hin.out; omega⟩
      rcases hR with ⟨rfl, rfl, h3, h4⟩ | ⟨rfl, hz0, h3, h4⟩ | ⟨rfl, rfl, h3, h4, h5⟩
      · have c0 := cell_bel HN6.out.bel HE.out.1
        have c1 := cell_bel HN6.out.bel HE.out.2.1
        have c2 := cell_bel HN6.out.bel HE.out.2.2.1
        have c3 := cell_bel HN6.out.bel HE.out.2.2.2
        have H3 := Aside0.mk h3
        have H4 := Aside0.mk h4
        clear h3 h4
        go_wp2_with fail
        refine (id_ns wb w6 x p q _ _ all k a b d HN6.out HA.out.1 HA.out.2.1 HA.out.2.2 hlen2.out).mono ?_
        rintro e w7 ⟨rfl, h7⟩
        rw [H3.out]
        rw [H4.out] at h7
        have HN7 := Aside0.mk h7
        clear c0 c1 c2 c3 h7
        go_wp2_with fail
        go_roundw
        case rel => exact ⟨i + 1, all, by rw [hw.out], Hin.out, by have := Htl.out; omega, HN7, HOA⟩
        case measure => exact msr hw.out Hin.out
      · have c0 := cell_bel HN6.out.bel HE.out.1
        have c1 := cell_bel HN6.out.bel HE.out.2.1
        have c2 := cell_bel HN6.out.bel HE.out.2.2.1
        have c3 := cell_bel HN6.out.bel HE.out.2.2.2
        have H3 := Aside0.mk h3
        have H4 := Aside0.mk h4
        have z2 : decide (z < 0) = false := decide_eq_false (by omega)
        have z4 : ¬ z < 0 := by omega
        clear h3 h4 hz0
        go_wp2_with fail
        refine (id_ns wb w6 x p q _ _ all k a b d HN6.out HA.out.1 HA.out.2.1 HA.out.2.2 hlen2.out).mono ?_
        rintro e w7 ⟨rfl, h7⟩
        rw [H3.out]
        rw [H4.out] at h7
        have HN7 := Aside0.mk h7
        clear c0 c1 c2 c3 h7
        go_wp2_with fail
        go_roundw
        case rel => exact ⟨i + 1, all, by rw [hw.out], Hin.out, by have := Htl.out; omega, HN7, HOA⟩
        case measure => exact msr hw.out Hin.out
      · have H3 := Aside0.mk h3
        have H4 := Aside0.mk h4
        have H5 := Aside0.mk h5
        clear h3 h4 h5
        have b0 := blk_cell HB6.out 0
        have b1 := blk_cell HB6.out 1
        have b2 := blk_cell HB6.out 2
        have b3 := blk_cell HB6.out 3
        have hal : Below w6.heap.size w6 (w6.alloc (.cells #[.int .i64 r1, .int .i64 r2, .int .i64 r3, .int .i64 r4] 46)) := below_alloc (Below.refl _ _) _
        have HB7 := Aside0.mk (heap_alloc_new w6 (.cells #[.int .i64 r1, .int .i64 r2, .int .i64 r3, .int .i64 r4] 46))
        have HN7 := Aside0.mk (HN6.out.below hal)
        clear hal
        go_wp2_with (first | (at_builtin; refine appN rfl (.tmp 72) (.tmp 74) rfl _ all ⟨r1, r2, r3, r4⟩ _ rfl rfl HN7.out HB7.out (by have := Hl.out; have := Htl.out; have := Hin.out; omega) ?_; intro v8 w8 h8; have c0 := cell_bel h8.bel HE.out.1; have c1 := cell_bel h8.bel HE.out.2.1; have c2 := cell_bel h8.bel HE.out.2.2.1; have c3 := cell_bel h8.bel HE.out.2.2.2))
        refine (id_ns wb w8 x p q _ _ _ k a b d h8 HA.out.1 HA.out.2.1 HA.out.2.2 hlen2.out).mono ?_
        rintro e w9 ⟨rfl, h9⟩
        rw [H3.out]
        rw [H4.out] at h9
        have HN9 := Aside0.mk h9
        clear c0 c1 c2 c3 h8 h9
        go_wp2_with fail
        go_roundw
        case rel => exact ⟨i + 1, _, by rw [hw.out], Hin.out, by rw [List.length_append, List.length_singleton]; have := Htl.out; omega, HN9, H5⟩
        case measure => exact msr hw.out Hin.out
    · have hnb : decide ((i : Int) < (l.length : Int)) = false := decide_eq_false (by omega)
      have hnc : decide (i < l.length) = false := decide_eq_false hin
      have Hall : Aside0 (all.length ≤ 60) := ⟨by have := Hl.out; omega⟩
      clear hin hi htl
      go_wp2_with fail
      clear HL2 HRv HO hcv
      go_loopw [14, 15, 16, 17, 18, 19] (fun C I _ _ _ _ wr => ∃ (i : Nat), I = .int .i64 (i : Int) ∧ i ≤ all.length ∧ C = .int .i64 (cntN ks (all.take i)) ∧ Aside0 (NS wb wr x p q (all.map toT) (.slice Av all.length cv) all)) (fun _ I _ _ _ _ _ => all.length - (intOf I).toNat)
      case atStart => exact ⟨0, rfl, Nat.zero_le _, rfl, HN⟩
      case round =>
        clear HN
        obtain ⟨i, rfl, hi, rfl, HN⟩ := hrel
        obtain ⟨C, hC⟩ : ∃ C, cntN ks (all.take i) = C := ⟨_, rfl⟩
        have HC := Aside0.mk hC
        rw [hC]
        by_cases hin : i < all.length
        · have hnb : decide ((i : Int) < (all.length : Int)) = true := decide_eq_true (by omega)
          have hnc : decide (i < all.length) = true := decide_eq_true hin
          have hstep := cntN_take ks all i hin
          have hbd := cntN_bd ks (all.take (i + 1))
          have hbl : ((all.take (i + 1)).length : Int) ≤ 60 := by have := Hall.out; rw [List.length_take]; omega
          rw [hC] at hstep
          rw [hstep] at hbd
          obtain ⟨Av', cv', hv', hcv, hrv⟩ := HN.out.rd
          simp only [Value.slice.injEq] at hv'
          obtain ⟨rfl, -, rfl⟩ := hv'
          have hrd : rd_T46 all (i : Int) = all[i] := by simp [rd_T46, List.getD, hin]
          have htu := tupleOf_map all i hin
          obtain ⟨ad, rfl, e0, e1, e2, e3⟩ := at_T46 hrv.out (i : Int) (by omega) (by omega)
          rw [hrd] at e0 e1 e2 e3
          obtain ⟨s, hs⟩ : ∃ s, all[i] = s := ⟨_, rfl⟩
          rw [hs] at e0 e1 e2 e3 hstep hbd htu
          obtain ⟨k, a, b, d⟩ := s
          have e0 : wr.cell? (ad.add (i * 4)) = some (.int .i64 k) := e0
          have e1 : wr.cell? ⟨(ad.add (i * 4)).block, (ad.add (i * 4)).off + 1, none⟩ = some (.int .i64 a) := e1
          have e2 : wr.cell? ⟨(ad.add (i * 4)).block, (ad.add (i * 4)).off + 2, none⟩ = some (.int .i64 b) := e2
          have e3 : wr.cell? ⟨(ad.add (i * 4)).block, (ad.add (i * 4)).off + 3, none⟩ = some (.int .i64 d) := e3
          have HE := Aside0.mk (And.intro e0 (And.intro e1 (And.intro e2 e3)))
          have i0 : 0 ≤ (i : Int) := by omega
          have i1 : (i : Int) < (all.length : Int) := by omega
          have hw : Aside0 (wrap64 ((i : Int) + 1) = ((i + 1 : Nat) : Int)) := ⟨by have := Hall.out; unfold wrap64; omega⟩
          have hstep : cntN ks (all.take (i + 1)) = C + if inK ks k then 1 else 0 := hstep
          have Hst := Aside0.mk hstep
          have Hbd := Aside0.mk (And.intro hbd hbl)
          have Hin := Aside0.mk hin
          have Htu := Aside0.mk htu
          clear hstep hbd hbl hcv hrv hrd htu hs hin hi hC e0 e1 e2 e3
          replace i0 := eq_true i0
          replace i1 := eq_true i1
          go_wp2_with fail
          refine (node_nk wb wr x p q _ (i : Int) HN.out.nk ⟨k, a, b, d⟩ true (.inl ⟨rfl, Htu.out⟩)).mono ?_
          rintro e w4 ⟨rfl, h4⟩
          have HN4 := Aside0.mk (HN.out.below h4)
          have e0 := cell_bel h4 HE.out.1
          have e1 := cell_bel h4 HE.out.2.1
          have e2 := cell_bel h4 HE.out.2.2.1
          have e3 := cell_bel h4 HE.out.2.2.2
          have HE4 := Aside0.mk (And.intro e0 (And.intro e1 (And.intro e2 e3)))
          clear h4 e0 e1 e2 e3 HE
          go_upto_region 22 with (fail)
          have hal := below_alloc (Below.refl w4.heap.size w4) (.cells #[.int .i64 k, .int .i64 a, .int .i64 b, .int .i64 d] 46)
          have B5 := heap_alloc_new w4 (.cells #[.int .i64 k, .int .i64 a, .int .i64 b, .int .i64 d] 46)
          have HN5 := Aside0.mk (HN4.out.below hal)
          have e0 := cell_bel hal HE4.out.1
          have e1 := cell_bel hal HE4.out.2.1
          have e2 := cell_bel hal HE4.out.2.2.1
          have e3 := cell_bel hal HE4.out.2.2.2
          clear hal HN4
          generalize w4.alloc (.cells #[.int .i64 k, .int .i64 a, .int .i64 b, .int .i64 d] 46) = w5 at *
          generalize w4.heap.size = g5 at *
          have HB5 := Aside0.mk B5
          clear B5 HE4
          have b0 := blk_cell HB5.out 0
          have b1 := blk_cell HB5.out 1
          have b2 := blk_cell HB5.out 2
          have b3 := blk_cell HB5.out 3
          have hself : (k == k && (a == a && (b == b && d == d))) = true := by simp
          go_region
          have HN6 := Aside0.mk (HN5.out.below (below_drew (Below.refl w5.heap.size w5)))
          have HB6 := Aside0.mk (blk_below' HB5.out (below_drew (Below.refl w5.heap.size w5)))
          clear hself b0 b1 b2 b3 e0 e1 e2 e3 HN5 HB5
          generalize w5.drew = w6 at *
          go_wp2_with fail
          go_loopw [18, 19] (fun T J wr => ∃ (j : Nat), J = .int .i64 (j : Int) ∧ j ≤ ks.length ∧ T = .bool (ks.isEmpty || decide (k ∈ ks.take j)) ∧ Aside0 (NS wb wr x p q (all.map toT) (.slice (some ad) all.length cv) all) ∧ Aside0 (wr.heap[g5]? = some (.cells #[.int .i64 k, .int .i64 a, .int .i64 b, .int .i64 d] 46 (0, 0)))) (fun _ J _ => ks.length - (intOf J).toNat)
          case atStart => exact ⟨0, rfl, Nat.zero_le _, by rw [inK_start], HN6, HB6⟩
          case round =>
            clear HN6 HB6
            obtain ⟨j, rfl, hj, rfl, HN6, HB6⟩ := hrel
            by_cases hjn : j < ks.length
            · have hnb : decide ((j : Int) < (ks.length : Int)) = true := decide_eq_true (by omega)
              have hnc : decide (j < ks.length) = true := decide_eq_true hjn
              have hnx := inK_take ks k j hjn
              obtain ⟨ad2, rfl, hx⟩ := HK2.out.at_ (j : Int) (by omega) (by omega)
              have hx := cell_bel HN6.out.bel hx
              have e0 : wr.cell? (ad2.add j) = some (.int .i64 (rd ks (j : Int))) := hx
              generalize rd ks (j : Int) = y at e0 hnx
              have b0 := blk_cell HB6.out 0
              have j0 : 0 ≤ (j : Int) := by omega
              have j1 : (j : Int) < (ks.length : Int) := by omega
              have hw2 : Aside0 (wrap64 ((j : Int) + 1) = ((j + 1 : Nat) : Int)) := ⟨by have := Hk.out; unfold wrap64; omega⟩
              have Hjn := Aside0.mk hjn
              have Hnx := Aside0.mk hnx
              have HN7 := Aside0.mk (HN6.out.below (below_drew (Below.refl wr.heap.size wr)))
              have HB7 := Aside0.mk (blk_below' HB6.out (below_drew (Below.refl wr.heap.size wr)))
              clear hnx hjn hj hx
              replace j0 := eq_true j0
              replace j1 := eq_true j1
              cases hT : (ks.isEmpty || decide (k ∈ ks.take j)) with
              | true =>
                have HT := Aside0.mk hT
                clear hT
                go_wp2_with fail
                go_region
                all_goals go_wp2_with fail
                go_roundw
                case rel => exact ⟨j + 1, by rw [hw2.out], Hjn.out, by rw [Hnx.out, HT.out]; rfl, HN7, HB7⟩
                case measure => exact msr hw2.out Hjn.out
              | false =>
                have HT := Aside0.mk hT
                clear hT
                go_wp2_with fail
                go_region
                all_goals go_wp2_with fail
                go_roundw
                case rel => exact ⟨j + 1, by rw [hw2.out], Hjn.out, by rw [Hnx.out, HT.out]; rfl, HN7, HB7⟩
                case measure => exact msr hw2.out Hjn.out
            · have hnb : decide ((j : Int) < (ks.length : Int)) = false := decide_eq_false (by omega)
              have hnc : decide (j < ks.length) = false := decide_eq_false hjn
              obtain rfl : j = ks.length := by omega
              clear hjn hj
              have hend := inK_end ks k
              cases hT : inK ks k with
              | true =>
                rw [hT] at hend
                have hst := Hst.out
                rw [hT, if_pos rfl] at hst
                have hws : wrap64 (C + 1) = C + 1 := by have := Hbd.out; rw [hT, if_pos rfl] at this; unfold wrap64; omega
                have HS := Aside0.mk hst
                clear hst hT
                rw [hend]
                clear hend
                go_wp2_with fail
                go_roundw
                case rel => exact ⟨i + 1, by rw [hw.out], Hin.out, by rw [HS.out, hws], HN6⟩
                case measure => exact msr hw.out Hin.out
              | false =>
                rw [hT] at hend
                have hst := Hst.out
                rw [hT, if_neg (by decide)] at hst
                have HS := Aside0.mk hst
                clear hst hT
                rw [hend]
                clear hend
                go_wp2_with fail
                go_roundw
                case rel => exact ⟨i + 1, by rw [hw.out], Hin.out, by rw [HS.out, Int.add_zero], HN6⟩
                case measure => exact msr hw.out Hin.out
        · have hnb : decide ((i : Int) < (all.length : Int)) = false := decide_eq_false (by omega)
          have hnc : decide (i < all.length) = false := decide_eq_false hin
          obtain rfl : i = all.length := by omega
          clear hin hi
          rw [List.take_length] at hC
          have hLk : lenN (all.map toT) ks = C := by rw [lenN_cnt ks all HOA.out, hC]
          have hLn : lenN (all.map toT) [] = (all.length : Int) := by rw [lenN_cnt [] all HOA.out, cntN_nil]
          have HLk := Aside0.mk hLk
          have HLn := Aside0.mk hLn
          have HT0 := Aside0.mk (tupleOf_end all)
          have hlen2 : Aside0 ((all.map toT).length ≤ 1000) := ⟨by rw [List.length_map]; have := Hall.out; omega⟩
          obtain ⟨Av', cv', hv', hcv, hrv⟩ := HN.out.rd
          simp only [Value.slice.injEq] at hv'
          obtain ⟨rfl, -, rfl⟩ := hv'
          have HRv := Aside0.mk hrv
          have hgb := blk_below' HG0.out HN.out.bel
          have HGb := Aside0.mk hgb
          obtain ⟨z, hz⟩ : ∃ z, findS (all.map toT) ak aa ab ac = z := ⟨_, rfl⟩
          have Hz := Aside0.mk hz
          have hfr := findN_ref (all.map toT) ak aa ab ac
          obtain ⟨f1, f2, hf⟩ : ∃ f1 f2, findN (all.map toT) ak aa ab ac = (f1, f2) := ⟨_, _, rfl⟩
          rw [hf, hz] at hfr
          have HF := Aside0.mk hf
          have HFr := Aside0.mk hfr
          have HC2 := Aside0.mk hcv
          have b0 := blk_cell hgb 0
          have b1 := blk_cell hgb 1
          have b2 := blk_cell hgb 2
          have b3 := blk_cell hgb 3
          clear hC hLk hLn hrv hgb hz hf hfr HC hcv
          go_wp2_with fail
          refine (refFind_any Av cv all ak aa ab ac wr HRv.out HC2.out (by have := Hall.out; omega)).mono ?_
          rintro e w4 ⟨rfl, h4⟩
          rw [Hz.out]
          have HN4 := Aside0.mk (HN.out.below h4)
          have hgb := blk_below' HGb.out h4
          clear b0 b1 b2 b3 h4
          have b0 := blk_cell hgb 0
          have b1 := blk_cell hgb 1
          have b2 := blk_cell hgb 2
          have b3 := blk_cell hgb 3
          clear hgb
          go_wp2_with fail
          refine (find_nk wb w4 x p q _ ak aa ab ac HN4.out.nk HAW.out.1 HAW.out.2.1 HAW.out.2.2).mono ?_
          rintro e w5 ⟨rfl, h5⟩
          rw [HF.out]
          have HN5 := Aside0.mk (HN4.out.below h5)
          clear b0 b1 b2 b3 h5
          go_wp2_with fail
          refine (node_nk wb w5 x p q _ (all.length : Int) HN5.out.nk z46 false (.inr ⟨rfl, rfl, HT0.out⟩)).mono ?_
          rintro e w6 ⟨rfl, h6⟩
          have HN6 := Aside0.mk (HN5.out.below h6)
          clear h6
          go_upto_region 34 with (fail)
          have hal := below_alloc (Below.refl w6.heap.size w6) (.cells #[.int .i64 z46.f0, .int .i64 z46.f1, .int .i64 z46.f2, .int .i64 z46.f3] 46)
          have HN7 := Aside0.mk (HN6.out.below hal)
          clear hal
          generalize w6.alloc (.cells #[.int .i64 z46.f0, .int .i64 z46.f1, .int .i64 z46.f2, .int .i64 z46.f3] 46) = w7 at *
          go_wp2_with fail
          refine (len_nk wb w7 x p q _ _ ks HN7.out.nk ((HK2.out.below HN7.out.bel).toV hc2) hlen2.out).mono ?_
          rintro e w8 ⟨rfl, h8⟩
          rw [HLk.out]
          have HN8 := Aside0.mk (HN7.out.below h8)
          clear h8
          go_wp2_with fail
          refine (len_nk wb w8 x p q _ _ [] HN8.out.nk (RdV.nil _) hlen2.out).mono ?_
          rintro e w9 ⟨rfl, h9⟩
          rw [HLn.out]
          have HN9 := Aside0.mk (HN8.out.below h9)
          clear h9
          obtain ⟨hf2, hf3, hf4⟩ := HFr.out
          by_cases hz0 : z ≥ 0
          · have z1 : decide (z ≥ 0) = true := decide_eq_true hz0
            have z3 : decide (0 ≤ z) = true := decide_eq_true hz0
            have q2 : f2 = true := hf2.trans z1
            have q3 : f1 = z := hf3 q2
            clear hf2 hf3 hf4
            subst q2
            subst q3
            replace hz0 := eq_true hz0
            go_wp2_with fail
            go_ret
            exact ⟨by simp, below_then HB.out HB.out.size HN9.out.bel⟩
          · have z1 : decide (z ≥ 0) = false := decide_eq_false hz0
            have z3 : decide (0 ≤ z) = false := decide_eq_false hz0
            have q2 : f2 = false := hf2.trans z1
            have q3 : f1 = 0 := hf4 q2
            clear hf2 hf3 hf4
            subst q2
            subst q3
            go_wp2_with fail
            go_ret
            exact ⟨by simp, below_then HB.out HB.out.size HN9.out.bel⟩
end Go.Proofs.YtkbbliicijnpjaaDoor.Tx
