/- Xd, Xe -/
import Derived.Test.YtkbbliicijnpjaaDoorXc
/- Xd: NodeNames' walk. -/
section
namespace Go.Proofs.YtkbbliicijnpjaaDoor.Tx
open Go.RowKit Go.Proofs.YtkbbliicijnpjaaDoorW.PrintWords Go.Proofs.YtkbbliicijnpjaaDoorW.PrintLast Go.Proofs.YtkbbliicijnpjaaDoorW.PrintMore
open Go.Proofs.YtkbbliicijnpjaaDoor.Base Go.Proofs.YtkbbliicijnpjaaDoor.Map Go.Proofs.YtkbbliicijnpjaaDoor.Ca Go.Proofs.YtkbbliicijnpjaaDoor.Qu Go.Proofs.YtkbbliicijnpjaaDoor.In Go.Proofs.YtkbbliicijnpjaaDoor.Kx Go.Maps Go.Proofs.YtkbbliicijnpjaaDoor.PNodeIds
set_option linter.unusedVariables false

abbrev kLs : Kd (List Int) := Kd.slice 3 (Kd.int .i64)
abbrev kOb : Kd (Int × List Int) := Kd.pair (Kd.int .i64) (Kd.slice 3 (Kd.int .i64))
theorem ls_at {w : World} {A : Option Addr} {l : List (List Int)} (h : kLs.C w A l.length l) (i : Nat) (hi : i < l.length) : ∃ ad B c, A = some ad ∧ w.cell? (ad.add i) = some (.slice B (l[i]).length c) ∧ RdV w (.slice B (l[i]).length c) l[i] := by
  obtain ⟨ad, cc, rfl, _, hK, hcell⟩ := Kd.C_get h [] (i : Int) (by omega) (by omega)
  have e : l.getD (i : Int).toNat [] = l[i] := by simp [List.getD, hi]
  rw [e] at hK
  obtain ⟨B, c, rfl, hc, hC⟩ := hK
  have h0 := hcell 0 _ rfl
  have h1 : w.cell? (ad.add i) = some (.slice B (l[i]).length c) := by simpa [kLs, Kd.slice] using h0
  exact ⟨ad, B, c, rfl, h1, RdI.toV ⟨hC⟩ hc⟩
theorem ob_at {w : World} {A : Option Addr} {l : List (Int × List Int)} (h : kOb.C w A l.length l) (i : Nat) (hi : i < l.length) : ∃ ad B c, A = some ad ∧ w.cell? (ad.add (i * 2)) = some (.int .i64 (l[i]).1) ∧ w.cell? ⟨(ad.add (i * 2)).block, (ad.add (i * 2)).off + 1, none⟩ = some (.slice B (l[i]).2.length c) ∧ RdV w (.slice B (l[i]).2.length c) (l[i]).2 := by
  obtain ⟨ad, cc, rfl, _, hK, hcell⟩ := Kd.C_get h (0, []) (i : Int) (by omega) (by omega)
  have e : l.getD (i : Int).toNat (0, []) = l[i] := by simp [List.getD, hi]
  rw [e] at hK
  obtain ⟨c0, c1, rfl, h0, B, c, h1, hc, hC⟩ := hK
  have h0 : c0 = [.int .i64 (l[i]).1] := h0
  subst h0 h1
  have k0 := hcell 0 _ rfl
  have k1 := hcell 1 _ rfl
  have k0 : w.cell? (ad.add (i * 2 + 0)) = some (.int .i64 (l[i]).1) := k0
  have k1 : w.cell? (ad.add (i * 2 + (0 + 1))) = some (.slice B (l[i]).2.length c) := k1
  rw [add_more] at k1
  exact ⟨ad, B, c, rfl, by simpa using k0, k1, RdI.toV ⟨hC⟩ hc⟩
/-- a context asked for: new or old -/
theorem ctx_round (cl : List (List Int)) (vs : List SlH) (w : World) (x : SlH) (ns : List Int) (h3 : ns.length ≤ 3) (hr : RelV w vs cl) (hx : RdV w (.slice x.1 x.2.1 x.2.2) ns) :
    (ctxId cl ns ≠ (vs.length : Int) ∧ ctxT cl ns = cl) ∨ (ctxId cl ns = (vs.length : Int) ∧ ctxT cl ns = cl ++ [ns] ∧ RelV w (vs ++ [x]) (cl ++ [ns])) := by
  obtain ⟨hl, hat⟩ := hr.out
  unfold ctxId ctxT
  rw [if_neg (by omega), if_neg (by omega), idOf, if_neg (by omega), idL]
  by_cases hm : ns ∈ cl
  · refine .inl ⟨?_, by rw [if_pos (.inr hm)]⟩
    have := place_lt hm
    omega
  · refine .inr ⟨by rw [place_new hm, hl], by rw [if_neg (fun h => h.elim (by omega) hm)], ⟨by simp [hl], fun i y t h1 h2 => ?_⟩⟩
    by_cases hi : i < vs.length
    · rw [List.getElem?_append_left hi] at h1
      rw [List.getElem?_append_left (by omega)] at h2
      exact hat i y t h1 h2
    · rw [List.getElem?_append_right (by omega)] at h1
      rw [List.getElem?_append_right (by omega)] at h2
      have e : i - vs.length = 0 := by
        by_cases e : i - vs.length = 0
        · exact e
        · rw [List.getElem?_eq_none (by simp; omega)] at h1; cases h1
      rw [e] at h1
      rw [show i - cl.length = 0 by omega] at h2
      simp at h1 h2
      subst h1 h2
      exact hx
theorem obj_round (ol : List (List Int)) (os : List (Int × SlH)) (w : World) (x : Int × SlH) (ns : List Int) (h3 : ns.length ≤ 3) (hr : RelO w os ol) (hx : RdV w (.slice x.2.1 x.2.2.1 x.2.2.2) ns) :
    (objId ol x.1 ns ≠ (os.length : Int) ∧ objT ol x.1 ns = ol) ∨ (objId ol x.1 ns = (os.length : Int) ∧ objT ol x.1 ns = ol ++ [x.1 :: ns] ∧ RelO w (os ++ [x]) (ol ++ [x.1 :: ns])) := by
  obtain ⟨hl, hat⟩ := hr.out
  unfold objId objT
  rw [if_neg (by omega), if_neg (by omega), idOf, if_neg (by simp; omega), idL]
  by_cases hm : x.1 :: ns ∈ ol
  · refine .inl ⟨?_, by rw [if_pos (.inr hm)]⟩
    have := place_lt hm
    omega
  · refine .inr ⟨by rw [place_new hm, hl], by rw [if_neg (fun h => h.elim (by simp; omega) hm)], ⟨by simp [hl], fun i y t h1 h2 => ?_⟩⟩
    by_cases hi : i < os.length
    · rw [List.getElem?_append_left hi] at h1
      rw [List.getElem?_append_left (by omega)] at h2
      exact hat i y t h1 h2
    · rw [List.getElem?_append_right (by omega)] at h1
      rw [List.getElem?_append_right (by omega)] at h2
      have e : i - os.length = 0 := by
        by_cases e : i - os.length = 0
        · exact e
        · rw [List.getElem?_eq_none (by simp; omega)] at h1; cases h1
      rw [e] at h1
      rw [show i - ol.length = 0 by omega] at h2
      simp at h1 h2
      subst h1 h2
      exact ⟨ns, rfl, hx⟩
def okT (cl : List (List Int)) : Prop := ∀ t ∈ cl, tOk t
theorem okT_snoc {cl : List (List Int)} {ns : List Int} (h : okT cl) (hn : tOk ns) : okT (cl ++ [ns]) := by
  intro t ht
  rcases List.mem_append.1 ht with ht | ht
  · exact h t ht
  · rw [List.mem_singleton] at ht; rw [ht]; exact hn
end Go.Proofs.YtkbbliicijnpjaaDoor.Tx
end

/- Xe: NodeNames' walk. -/
section
namespace Go.Proofs.YtkbbliicijnpjaaDoor.Tx
open Go.RowKit Go.Proofs.YtkbbliicijnpjaaDoorW.PrintWords Go.Proofs.YtkbbliicijnpjaaDoorW.PrintLast Go.Proofs.YtkbbliicijnpjaaDoorW.PrintMore
open Go.Proofs.YtkbbliicijnpjaaDoor.Base Go.Proofs.YtkbbliicijnpjaaDoor.Map Go.Proofs.YtkbbliicijnpjaaDoor.Ca Go.Proofs.YtkbbliicijnpjaaDoor.Qu Go.Proofs.YtkbbliicijnpjaaDoor.In Go.Proofs.YtkbbliicijnpjaaDoor.Kx Go.Maps Go.Proofs.YtkbbliicijnpjaaDoor.PNodeIds
set_option linter.unusedVariables false

set_option maxHeartbeats 8000000 in
set_option maxRecDepth 100000 in
theorem nodeNames_walk (A : Option Addr) (l : List (List Int)) (c : Nat) (A2 : Option Addr) (m : List (Int × List Int)) (c2 : Nat) (ak aa ab ac : Int) (w : World) (hl : kLs.C w A l.length l) (hc : l.length ≤ c) (hm : kOb.C w A2 m.length m) (hc2 : m.length ≤ c2) (hP : P10 w) (hok : ∀ ns ∈ l, ∀ x ∈ ns, (Lit.int .i64 x).wf = true) (hokm : ∀ y ∈ m, (Lit.int .i64 y.1).wf = true ∧ ∀ x ∈ y.2, (Lit.int .i64 x).wf = true) (haa : (Lit.int .i64 aa).wf = true) (hab : (Lit.int .i64 ab).wf = true) (hac : (Lit.int .i64 ac).wf = true) :
    Calls Tryd.prog 5 #[.slice A l.length c, .slice A2 m.length c2, .agg #[.int .i64 ak, .int .i64 aa, .int .i64 ab, .int .i64 ac]] w fun e w' => e = .returned (.bool true) ∧ Below w.heap.size w w' := by
  have HP := Aside0.mk hP
  have HL := Aside0.mk hl
  have HM := Aside0.mk hm
  have HO := Aside0.mk hok
  have HOm := Aside0.mk hokm
  have HAW := Aside0.mk (And.intro haa (And.intro hab hac))
  obtain ⟨g, hg⟩ : ∃ g, w.heap.size = g := ⟨_, rfl⟩
  have hwb : ∀ wb, w.alloc (.cells #[.int .i64 ak, .int .i64 aa, .int .i64 ab, .int .i64 ac] 46) = wb → wb.heap[g]? = some (.cells #[.int .i64 ak, .int .i64 aa, .int .i64 ab, .int .i64 ac] 46 (0, 0)) ∧ Below w.heap.size w wb := by
    rintro wb rfl
    subst hg
    exact ⟨heap_alloc_new _ _, below_alloc (Below.refl _ _) _⟩
  have Hg := Aside0.mk hg
  clear hP hl hm hok hokm haa hab hac
  by_cases hbig : 10 < l.length ∨ 10 < m.length
  · have HBg := Aside0.mk hbig
    clear hbig
    go_enter Tryd.func5, Tryd.ntmps5
    go_upto_region 1 with (fail)
    clear hg
    generalize hqw : w.alloc (.cells #[.int .i64 ak, .int .i64 aa, .int .i64 ab, .int .i64 ac] 46) = wb
    obtain ⟨B0, hB⟩ := hwb wb hqw
    clear hwb hqw
    have HB := Aside0.mk hB
    clear B0 hB
    go_wp2_with fail
    refine (awakeN_any wb (HP.out.below HB.out)).mono ?_
    rintro e w1 ⟨rfl, h1⟩
    by_cases h60 : (10 : Int) < l.length
    · have d1 : decide ((l.length : Int) > 10) = true := decide_eq_true (by omega)
      have d2 : decide (10 < l.length) = true := decide_eq_true (by omega)
      go_wp2_with fail
      refine (awakeN_any w1 (HP.out.below (below_then HB.out HB.out.size h1))).mono ?_
      rintro e w2 ⟨rfl, h2⟩
      go_wp2
      go_ret
      exact ⟨rfl, below_then HB.out HB.out.size (bel_trans h1 h2)⟩
    · have d1 : decide ((l.length : Int) > 10) = false := decide_eq_false (by omega)
      have d2 : decide (10 < l.length) = false := decide_eq_false (by omega)
      have d3 : decide ((m.length : Int) > 10) = true := decide_eq_true (by have := HBg.out; omega)
      have d4 : decide (10 < m.length) = true := decide_eq_true (by have := HBg.out; omega)
      go_wp2_with fail
      refine (awakeN_any w1 (HP.out.below (below_then HB.out HB.out.size h1))).mono ?_
      rintro e w2 ⟨rfl, h2⟩
      go_wp2
      go_ret
      exact ⟨rfl, below_then HB.out HB.out.size (bel_trans h1 h2)⟩
  have d1 : decide ((l.length : Int) > 10) = false := decide_eq_false (by omega)
  have d2 : decide (10 < l.length) = false := decide_eq_false (by omega)
  have d3 : decide ((10 : Int) < l.length) = false := decide_eq_false (by omega)
  have d4 : decide ((m.length : Int) > 10) = false := decide_eq_false (by omega)
  have d5 : decide (10 < m.length) = false := decide_eq_false (by omega)
  have d6 : decide ((10 : Int) < m.length) = false := decide_eq_false (by omega)
  have Hl := Aside0.mk (show l.length ≤ 10 by omega)
  have Hk := Aside0.mk (show m.length ≤ 10 by omega)
  clear hbig
  go_enter Tryd.func5, Tryd.ntmps5
  go_upto_region 1 with (fail)
  clear hg
  generalize hqw : w.alloc (.cells #[.int .i64 ak, .int .i64 aa, .int .i64 ab, .int .i64 ac] 46) = wb
  obtain ⟨B0, hB⟩ := hwb wb hqw
  clear hwb hqw
  have HB := Aside0.mk hB
  have HG0 := Aside0.mk B0
  clear B0 hB
  go_wp2_with fail
  refine (awakeN_any wb (HP.out.below HB.out)).mono ?_
  rintro e w1 ⟨rfl, h1⟩
  go_wp2_with fail
  refine (new_ct wb w1 h1).mono ?_
  rintro e w2 ⟨q, p1, p2, rfl, h2⟩
  have H2 := Aside0.mk h2
  clear h1 h2
  go_wp2_with fail
  refine (newNodes wb w2 q H2.out.bel).mono ?_
  rintro e w3 ⟨x, p, rfl, hN, b3, hx⟩
  have HN := Aside0.mk (NNS.start (H2.out.box b3 hN.blk hx))
  have HP2 := Aside0.mk (HP.out.below HB.out)
  have HL2 := Aside0.mk (Kd.C_below HL.out HB.out)
  have HM2 := Aside0.mk (Kd.C_below HM.out HB.out)
  clear H2 HP hN b3 hx HL HM
  go_wp2_with fail
  go_loopw [10, 12] (fun V I wr => ∃ (i : Nat) (cl : List (List Int)) (vs : List SlH), I = .int .i64 (i : Int) ∧ i ≤ l.length ∧ cl.length ≤ i ∧ Aside0 (NNS wb wr q p1 p2 cl [] [(x, nodeB q p [])] V vs (.slice none 0 0) []) ∧ Aside0 (RelV wb vs cl) ∧ Aside0 (okT cl)) (fun _ I _ => l.length - (intOf I).toNat)
  case atStart => exact ⟨0, [], [], rfl, Nat.zero_le _, Nat.le_refl _, HN, ⟨⟨rfl, fun i x ns h => by simp at h⟩⟩, ⟨fun t ht => absurd ht (by simp)⟩⟩
  case round =>
    clear HN
    obtain ⟨i, cl, vs, rfl, hi, htl, HN, HRV, HOT⟩ := hrel
    obtain ⟨Av, cv, rfl, hcv, hrv⟩ := HN.out.rdV
    clear hrv
    by_cases hin : i < l.length
    · have hnb : decide ((i : Int) < (l.length : Int)) = true := decide_eq_true (by omega)
      have hnc : decide (i < l.length) = true := decide_eq_true hin
      obtain ⟨ad, B, cB, rfl, hcell, hrd⟩ := ls_at HL2.out i hin
      have hwf : ∀ y ∈ l[i], (Lit.int .i64 y).wf = true := HO.out _ (List.getElem_mem _)
      generalize l[i] = ns at hcell hrd hwf
      have i0 : 0 ≤ (i : Int) := by omega
      have i1 : (i : Int) < (l.length : Int) := by omega
      have hw : Aside0 (wrap64 ((i : Int) + 1) = ((i + 1 : Nat) : Int)) := ⟨by have := Hl.out; unfold wrap64; omega⟩
      have Hin := Aside0.mk hin
      have Htl := Aside0.mk htl
      have HE := Aside0.mk hcell
      have HRd := Aside0.mk hrd
      have HWf := Aside0.mk hwf
      have HCv := Aside0.mk hcv
      have c0 := cell_bel2 HN.out.bel HE.out
      clear hin hi htl hcell hrd hwf hcv
      replace i0 := eq_true i0
      replace i1 := eq_true i1
      by_cases h3 : ns.length ≤ 3
      · have e1 : decide ((ns.length : Int) ≤ 3) = true := decide_eq_true (by omega)
        have e2 : decide (ns.length ≤ 3) = true := decide_eq_true h3
        have HTk : Aside0 (tOk ns) := ⟨by omega, HWf.out⟩
        have HR := Aside0.mk (ctx_round cl vs wb (B, ns.length, cB) ns h3 HRV.out HRd.out)
        obtain ⟨z, hz⟩ : ∃ z, ctxId cl ns = z := ⟨_, rfl⟩
        have Hz := Aside0.mk hz
        have q0 : wr.cell? ⟨q, 0, none⟩ = some (.pointer (some ⟨p1, 0, none⟩)) := blk_cell HN.out.ct.blk 0
        clear hz
        go_wp2_with fail
        go_region_held3 (fun w' => w'.cell? ⟨q, 0, none⟩ = some (.pointer (some ⟨p1, 0, none⟩)) ∧ w'.cell? (ad.add i) = some (.slice B ns.length cB)) (first | (exact ⟨blk_cell HN5.out.ct.blk 0, cell_bel2 HN5.out.bel HE.out⟩) | (constructor <;> simp [*]))
          (first
            | (go_at_call 27; (refine (ctx_nns wb _ q p1 p2 cl [] _ _ _ vs [] _ ns (HN.out.below (below_drew (Below.refl _ _))) ((HRd.out.below HN.out.bel).below (below_drew (Below.refl _ _))) HWf.out (by have := Hl.out; have := Htl.out; have := Hin.out; omega)).mono ?_); rintro e w5 ⟨rfl, h5⟩; rw [Hz.out]; have HN5 := Aside0.mk h5; clear h5)
            | (fail))
        have hR := HR.out
        rw [Hz.out] at hR
        rcases hR with ⟨hz1, ht1⟩ | ⟨hz1, ht1, hr1⟩
        · have z1 : (z == (vs.length : Int)) = false := beq_eq_false_iff_ne.2 hz1
          have Ht := Aside0.mk ht1
          clear hz1 ht1
          go_wp2_with fail
          go_roundw
          case rel => exact ⟨i + 1, cl, vs, by rw [hw.out], Hin.out, by have := Htl.out; omega, ⟨by have := HN5.out; rw [Ht.out] at this; exact this⟩, HRV, HOT⟩
          case measure => exact msr hw.out Hin.out
        · subst hz1
          have Ht := Aside0.mk ht1
          have HRV2 := Aside0.mk hr1
          clear ht1 hr1
          have hal : Below w5.heap.size w5 (w5.alloc (.cells #[.slice B ns.length cB] 34)) := below_alloc (Below.refl _ _) _
          have HB7 := Aside0.mk (heap_alloc_new w5 (.cells #[.slice B ns.length cB] 34))
          have HN7 := Aside0.mk (HN5.out.below hal)
          have c0 := cell_bel2 HN5.out.bel HE.out
          clear hal
          go_wp2_with (first | (at_builtin; refine appV rfl (.tmp 61) (.tmp 66) rfl _ _ vs [] (B, ns.length, cB) _ rfl rfl HN7.out HB7.out (by have := HRV.out.out.1; have := Hl.out; have := Htl.out; have := Hin.out; omega) ?_; intro v8 w8 h8; have HN8 := Aside0.mk h8; clear h8))
          go_roundw
          case rel => exact ⟨i + 1, cl ++ [ns], vs ++ [(B, ns.length, cB)], by rw [hw.out], Hin.out, by rw [List.length_append, List.length_singleton]; have := Htl.out; omega, ⟨by have := HN8.out; rw [Ht.out] at this; exact this⟩, HRV2, ⟨okT_snoc HOT.out HTk.out⟩⟩
          case measure => exact msr hw.out Hin.out
      · have e1 : decide ((ns.length : Int) ≤ 3) = false := decide_eq_false (by omega)
        have e2 : decide (ns.length ≤ 3) = false := decide_eq_false h3
        have HN5 := Aside0.mk (HN.out.below (below_drew (Below.refl wr.heap.size wr)))
        go_wp2_with fail
        go_region
        all_goals go_wp2_with fail
        go_roundw
        case rel => exact ⟨i + 1, cl, vs, by rw [hw.out], Hin.out, by have := Htl.out; omega, HN5, HRV, HOT⟩
        case measure => exact msr hw.out Hin.out
    · have hnb : decide ((i : Int) < (l.length : Int)) = false := decide_eq_false (by omega)
      have hnc : decide (i < l.length) = false := decide_eq_false hin
      have Hcl : Aside0 (cl.length ≤ 10) := ⟨by have := Hl.out; omega⟩
      have HCv := Aside0.mk hcv
      clear hin hi htl hcv
      go_wp2_with fail
      go_loopw [11, 13] (fun V I wr => ∃ (i : Nat) (ol : List (List Int)) (os : List (Int × SlH)), I = .int .i64 (i : Int) ∧ i ≤ m.length ∧ ol.length ≤ i ∧ Aside0 (NNS wb wr q p1 p2 cl ol [(x, nodeB q p [])] (.slice Av vs.length cv) vs V os) ∧ Aside0 (RelO wb os ol) ∧ Aside0 (okT ol)) (fun _ I _ => m.length - (intOf I).toNat)
      case atStart => exact ⟨0, [], [], rfl, Nat.zero_le _, Nat.le_refl _, HN, ⟨⟨rfl, fun i x ns h => by simp at h⟩⟩, ⟨fun t ht => absurd ht (by simp)⟩⟩
      case round =>
        clear HN
        obtain ⟨i, ol, os, rfl, hi, htl, HN, HRO, HOU⟩ := hrel
        obtain ⟨Aw, cw, rfl, hcw, hrw⟩ := HN.out.rdO
        clear hrw
        by_cases hin : i < m.length
        · have hnb : decide ((i : Int) < (m.length : Int)) = true := decide_eq_true (by omega)
          have hnc : decide (i < m.length) = true := decide_eq_true hin
          obtain ⟨ad, B, cB, rfl, hcell0, hcell1, hrd⟩ := ob_at HM2.out i hin
          have hwf := HOm.out _ (List.getElem_mem hin)
          generalize m[i] = y at hcell0 hcell1 hrd hwf
          obtain ⟨st, ns⟩ := y
          have hcell0 : wb.cell? (ad.add (i * 2)) = some (.int .i64 st) := hcell0
          have hcell1 : wb.cell? ⟨(ad.add (i * 2)).block, (ad.add (i * 2)).off + 1, none⟩ = some (.slice B ns.length cB) := hcell1
          have hrd : RdV wb (.slice B ns.length cB) ns := hrd
          have i0 : 0 ≤ (i : Int) := by omega
          have i1 : (i : Int) < (m.length : Int) := by omega
          have hw : Aside0 (wrap64 ((i : Int) + 1) = ((i + 1 : Nat) : Int)) := ⟨by have := Hk.out; unfold wrap64; omega⟩
          have Hin := Aside0.mk hin
          have Htl := Aside0.mk htl
          have HE := Aside0.mk (And.intro hcell0 hcell1)
          have HRd := Aside0.mk hrd
          have HSt := Aside0.mk hwf.1
          have HWf := Aside0.mk hwf.2
          have HCw := Aside0.mk hcw
          have c0 := cell_bel2 HN.out.bel HE.out.1
          have c1 := cell_bel2 HN.out.bel HE.out.2
          clear hin hi htl hcell0 hcell1 hrd hwf hcw
          replace i0 := eq_true i0
          replace i1 := eq_true i1
          by_cases h3 : ns.length ≤ 3
          · have e1 : decide ((ns.length : Int) ≤ 3) = true := decide_eq_true (by omega)
            have e2 : decide (ns.length ≤ 3) = true := decide_eq_true h3
            have HTk : Aside0 (tOk (st :: ns)) := ⟨by simp; omega, fun y hy => (List.mem_cons.1 hy).elim (fun e => by rw [e]; exact HSt.out) (HWf.out y)⟩
            have HR := Aside0.mk (obj_round ol os wb (st, B, ns.length, cB) ns h3 HRO.out HRd.out)
            obtain ⟨z, hz⟩ : ∃ z, objId ol st ns = z := ⟨_, rfl⟩
            have Hz := Aside0.mk hz
            have q1 : wr.cell? ⟨q, 1, none⟩ = some (.pointer (some ⟨p2, 0, none⟩)) := blk_cell HN.out.ct.blk 1
            clear hz
            go_wp2_with fail
            go_region_held3 (fun w' => w'.cell? ⟨q, 1, none⟩ = some (.pointer (some ⟨p2, 0, none⟩)) ∧ w'.cell? (ad.add (i * 2)) = some (.int .i64 st) ∧ w'.cell? ⟨(ad.add (i * 2)).block, (ad.add (i * 2)).off + 1, none⟩ = some (.slice B ns.length cB)) (first | (exact ⟨blk_cell HN5.out.ct.blk 1, cell_bel2 HN5.out.bel HE.out.1, cell_bel2 HN5.out.bel HE.out.2⟩) | (refine ⟨?_, ?_, ?_⟩ <;> simp [*]))
              (first
                | (go_at_call 28; (refine (obj_nns wb _ q p1 p2 cl ol _ _ _ vs os st _ ns (HN.out.below (below_drew (Below.refl _ _))) ((HRd.out.below HN.out.bel).below (below_drew (Below.refl _ _))) HSt.out HWf.out (by have := Hk.out; have := Htl.out; have := Hin.out; omega)).mono ?_); rintro e w5 ⟨rfl, h5⟩; rw [Hz.out]; have HN5 := Aside0.mk h5; clear h5)
                | (fail))
            have hR := HR.out
            rw [show objId ol (st, B, ns.length, cB).1 ns = z from Hz.out] at hR
            rcases hR with ⟨hz1, ht1⟩ | ⟨hz1, ht1, hr1⟩
            · have z1 : (z == (os.length : Int)) = false := beq_eq_false_iff_ne.2 hz1
              have Ht := Aside0.mk ht1
              clear hz1 ht1
              go_wp2_with fail
              go_roundw
              case rel => exact ⟨i + 1, ol, os, by rw [hw.out], Hin.out, by have := Htl.out; omega, ⟨by have := HN5.out; rw [show objT ol st ns = ol from Ht.out] at this; exact this⟩, HRO, HOU⟩
              case measure => exact msr hw.out Hin.out
            · subst hz1
              have Ht := Aside0.mk ht1
              have HRO2 := Aside0.mk hr1
              clear ht1 hr1
              have hal : Below w5.heap.size w5 (w5.alloc (.cells #[.int .i64 st, .slice B ns.length cB] 36)) := below_alloc (Below.refl _ _) _
              have HB7 := Aside0.mk (heap_alloc_new w5 (.cells #[.int .i64 st, .slice B ns.length cB] 36))
              have HN7 := Aside0.mk (HN5.out.below hal)
              have c0 := cell_bel2 HN5.out.bel HE.out.1
              have c1 := cell_bel2 HN5.out.bel HE.out.2
              clear hal
              go_wp2_with (first | (at_builtin; refine appO rfl (.tmp 95) (.tmp 100) rfl _ _ vs os (st, B, ns.length, cB) _ rfl rfl HN7.out HB7.out (by have := HRO.out.out.1; have := Hk.out; have := Htl.out; have := Hin.out; omega) ?_; intro v8 w8 h8; have HN8 := Aside0.mk h8; clear h8))
              go_roundw
              case rel => exact ⟨i + 1, ol ++ [st :: ns], os ++ [(st, B, ns.length, cB)], by rw [hw.out], Hin.out, by rw [List.length_append, List.length_singleton]; have := Htl.out; omega, ⟨by have := HN8.out; rw [show objT ol st ns = ol ++ [st :: ns] from Ht.out] at this; exact this⟩, HRO2, ⟨okT_snoc HOU.out HTk.out⟩⟩
              case measure => exact msr hw.out Hin.out
          · have e1 : decide ((ns.length : Int) ≤ 3) = false := decide_eq_false (by omega)
            have e2 : decide (ns.length ≤ 3) = false := decide_eq_false h3
            have HN5 := Aside0.mk (HN.out.below (below_drew (Below.refl wr.heap.size wr)))
            go_wp2_with fail
            go_region
            all_goals go_wp2_with fail
            go_roundw
            case rel => exact ⟨i + 1, ol, os, by rw [hw.out], Hin.out, by have := Htl.out; omega, HN5, HRO, HOU⟩
            case measure => exact msr hw.out Hin.out
        · have hnb : decide ((i : Int) < (m.length : Int)) = false := decide_eq_false (by omega)
          have hnc : decide (i < m.length) = false := decide_eq_false hin
          have HCw := Aside0.mk hcw
          clear hin hi htl hcw
          obtain ⟨Av', cv', hv', -, hrv⟩ := HN.out.rdV
          simp only [Value.slice.injEq] at hv'
          obtain ⟨rfl, -, rfl⟩ := hv'
          obtain ⟨Aw', cw', hw', -, hrw⟩ := HN.out.rdO
          simp only [Value.slice.injEq] at hw'
          obtain ⟨rfl, -, rfl⟩ := hw'
          have HVr := Aside0.mk hrv
          have HWr := Aside0.mk hrw
          have HG := Aside0.mk (blk_below' HG0.out HN.out.bel)
          have HRV2 := Aside0.mk (HRV.out.below HN.out.bel)
          have HRO2 := Aside0.mk (HRO.out.below HN.out.bel)
          have HPr := Aside0.mk (HP2.out.below HN.out.bel)
          have b0 := blk_cell HG.out 0
          have b1 := blk_cell HG.out 1
          have b2 := blk_cell HG.out 2
          have b3 := blk_cell HG.out 3
          have HB1 := Below.refl wr.heap.size wr
          clear hrv hrw
          obtain ⟨tn, htn⟩ : ∃ t, nameS cl ol ak aa ab ac = t := ⟨_, rfl⟩
          have Htn := Aside0.mk htn
          clear htn
          go_wp2_with fail
          go_region_held3 (fun w' => w'.cell? ⟨g, 0, none⟩ = some (.int .i64 ak) ∧ w'.cell? ⟨g, 1, none⟩ = some (.int .i64 aa) ∧ w'.cell? ⟨g, 2, none⟩ = some (.int .i64 ab) ∧ w'.cell? ⟨g, 3, none⟩ = some (.int .i64 ac) ∧ Below wr.heap.size wr w') (first | (exact ⟨bel_cell HB1 b0, bel_cell HB1 b1, bel_cell HB1 b2, bel_cell HB1 b3, HB1⟩) | (refine ⟨bel_cell (wb := wr) ?_ b0, bel_cell (wb := wr) ?_ b1, bel_cell (wb := wr) ?_ b2, bel_cell (wb := wr) ?_ b3, ?_⟩ <;> simp [*]))
            (first
              | (go_at_call 29; (refine (name_any wb _ q p1 p2 cl ol _ x _ _ _ _ _ _ (HN.out.ct.below (by simp [*])) (List.mem_cons_self) (HPr.out.below (by simp [*])) HOT.out HOU.out ak aa ab ac HAW.out.1 HAW.out.2.1 HAW.out.2.2).mono ?_); rintro e w5 ⟨rfl, h5⟩; rw [Htn.out]; have HB2 := bel_trans (wb := wr) (by simp [*]) h5; clear HB1 h5; have HB1 := HB2; clear HB2)
              | (go_at_call 30; (refine (refName_any Av cv vs cl Aw cw os ol _ (Kd.C_below HVr.out (by simp [*])) HCv.out (Kd.C_below HWr.out (by simp [*])) HCw.out (HRV2.out.below (by simp [*])) (HRO2.out.below (by simp [*])) HOT.out HOU.out ak aa ab ac HAW.out.1 HAW.out.2.1 HAW.out.2.2).mono ?_); rintro e w6 ⟨rfl, h6⟩; rw [Htn.out]; have HB2 := bel_trans (wb := wr) (by simp [*]) h6; clear HB1 h6; have HB1 := HB2; clear HB2)
              | (fail))
          all_goals go_wp2_with fail
          all_goals go_ret
          all_goals exact ⟨by simp, below_then HB.out HB.out.size (below_then HN.out.bel HN.out.bel.size HB1)⟩
end Go.Proofs.YtkbbliicijnpjaaDoor.Tx
end
