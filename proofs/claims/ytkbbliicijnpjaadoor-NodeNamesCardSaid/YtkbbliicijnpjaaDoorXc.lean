/- nodes: the document's Name. -/
import Derived.Test.YtkbbliicijnpjaaDoorXb
import Derived.Test.YtkbbliicijnpjaaDoorVl
import Derived.Test.YtkbbliicijnpjaaDoorTd
namespace Go.Proofs.YtkbbliicijnpjaaDoor.Tx
open Go.RowKit Go.Proofs.YtkbbliicijnpjaaDoorW.PrintWords Go.Proofs.YtkbbliicijnpjaaDoorW.PrintLast Go.Proofs.YtkbbliicijnpjaaDoorW.PrintMore
open Go.Proofs.YtkbbliicijnpjaaDoor.Base Go.Proofs.YtkbbliicijnpjaaDoor.Map Go.Proofs.YtkbbliicijnpjaaDoor.Ca Go.Proofs.YtkbbliicijnpjaaDoor.Qu Go.Proofs.YtkbbliicijnpjaaDoor.In Go.Proofs.YtkbbliicijnpjaaDoor.Kx Go.Maps Go.Proofs.YtkbbliicijnpjaaDoor.PNodeIds
set_option linter.unusedVariables false

theorem refDigits_any (n : Int) (w : World) (h : (Lit.int .i64 n).wf = true) : Calls Tryd.prog 50 #[.int .i64 n] w fun e w' => e = .returned (.string (itoaS n)) ∧ Below w.heap.size w w' :=
  PCtxMakes.winnowerref06_Digits.calls 21 n _ w (digits_f n h 20 (by decide))
/-- the contexts that stand for the lists -/
structure RelV (w : World) (vs : List SlH) (cl : List (List Int)) : Prop where
  mk :: (out : vs.length = cl.length ∧ ∀ (i : Nat) (x : SlH) (ns : List Int), vs[i]? = some x → cl[i]? = some ns → RdV w (.slice x.1 x.2.1 x.2.2) ns)
structure RelO (w : World) (os : List (Int × SlH)) (ol : List (List Int)) : Prop where
  mk :: (out : os.length = ol.length ∧ ∀ (i : Nat) (x : Int × SlH) (t : List Int), os[i]? = some x → ol[i]? = some t → ∃ ns, t = x.1 :: ns ∧ RdV w (.slice x.2.1 x.2.2.1 x.2.2.2) ns)
theorem RelV.below {w w1 : World} {vs : List SlH} {cl : List (List Int)} (h : RelV w vs cl) (hb : Below w.heap.size w w1) : RelV w1 vs cl := ⟨h.out.1, fun i x ns h1 h2 => (h.out.2 i x ns h1 h2).below hb⟩
theorem RelO.below {w w1 : World} {os : List (Int × SlH)} {ol : List (List Int)} (h : RelO w os ol) (hb : Below w.heap.size w w1) : RelO w1 os ol := ⟨h.out.1, fun i x ns h1 h2 => by
  obtain ⟨m, e, hr⟩ := h.out.2 i x ns h1 h2
  exact ⟨m, e, hr.below hb⟩⟩
theorem wordsS_2 (a : ByteArray) (n : Wd) : wordsS [.txt a, n] = a ++ { data := #[32] } ++ n.str := by
  show joinB ([a] ++ [n.str]) { data := #[32] } = _
  rw [joinB_snoc _ _ _ (by simp), joinB_one]
theorem wordsS_3 (a : ByteArray) (n m : Wd) : wordsS [.txt a, n, m] = a ++ { data := #[32] } ++ n.str ++ { data := #[32] } ++ m.str := by
  show joinB (([a] ++ [n.str]) ++ [m.str]) { data := #[32] } = _
  rw [joinB_snoc _ _ _ (by simp), joinB_snoc _ _ _ (by simp), joinB_one]
theorem wordsS_4 (a : ByteArray) (n m o : Wd) : wordsS [.txt a, n, m, o] = a ++ { data := #[32] } ++ n.str ++ { data := #[32] } ++ m.str ++ { data := #[32] } ++ o.str := by
  show joinB ((([a] ++ [n.str]) ++ [m.str]) ++ [o.str]) { data := #[32] } = _
  rw [joinB_snoc _ _ _ (by simp), joinB_snoc _ _ _ (by simp), joinB_snoc _ _ _ (by simp), joinB_one]
theorem lit_sp (l : List UInt8) (b : ByteArray) : (⟨l.toArray⟩ : ByteArray) ++ { data := #[32] } ++ b = (⟨(l ++ [32]).toArray⟩ : ByteArray) ++ b := by
  apply ba_eq
  rw [app_data, app_data, app_data]

theorem nm_static (a : Int) : (⟨#[115, 116, 97, 116, 105, 99, 32]⟩ : ByteArray) ++ itoaS a = wordsS [.txt ⟨#[115, 116, 97, 116, 105, 99]⟩, .num a] := by
  rw [wordsS_2]; exact (lit_sp [115, 116, 97, 116, 105, 99] _).symm
theorem nm_ret (b : Int) (T : ByteArray) : (⟨#[114, 101, 116, 32]⟩ : ByteArray) ++ itoaS b ++ ⟨#[32]⟩ ++ T = wordsS [.txt ⟨#[114, 101, 116]⟩, .num b, .txt T] := by
  rw [wordsS_3]; exact congrArg (fun x : ByteArray => x ++ ⟨#[32]⟩ ++ T) (lit_sp [114, 101, 116] (itoaS b)).symm
theorem nm_exc (b : Int) (T : ByteArray) : (⟨#[101, 120, 99, 32]⟩ : ByteArray) ++ itoaS b ++ ⟨#[32]⟩ ++ T = wordsS [.txt ⟨#[101, 120, 99]⟩, .num b, .txt T] := by
  rw [wordsS_3]; exact congrArg (fun x : ByteArray => x ++ ⟨#[32]⟩ ++ T) (lit_sp [101, 120, 99] (itoaS b)).symm
theorem nm_var (b d : Int) (T : ByteArray) : (⟨#[118, 97, 114, 32]⟩ : ByteArray) ++ itoaS b ++ ⟨#[32]⟩ ++ T ++ ⟨#[32]⟩ ++ itoaS d = wordsS [.txt ⟨#[118, 97, 114]⟩, .num b, .txt T, .num d] := by
  rw [wordsS_4]; exact congrArg (fun x : ByteArray => x ++ ⟨#[32]⟩ ++ T ++ ⟨#[32]⟩ ++ itoaS d) (lit_sp [118, 97, 114] (itoaS b)).symm
theorem nm_field (st b : Int) (T : ByteArray) : (⟨#[102, 105, 101, 108, 100, 32]⟩ : ByteArray) ++ itoaS st ++ ⟨#[32]⟩ ++ T ++ ⟨#[32]⟩ ++ itoaS b = wordsS [.txt ⟨#[102, 105, 101, 108, 100]⟩, .num st, .txt T, .num b] := by
  rw [wordsS_4]; exact congrArg (fun x : ByteArray => x ++ ⟨#[32]⟩ ++ T ++ ⟨#[32]⟩ ++ itoaS b) (lit_sp [102, 105, 101, 108, 100] (itoaS st)).symm
theorem cell_bel2 {w w1 : World} {a : Addr} {v : Value} (hb : Below w.heap.size w w1) (h : w.cell? a = some v) : w1.cell? a = some v := (hb.cell (World.block_lt_of_cell? w _ h)).trans h
set_option maxHeartbeats 8000000 in
set_option maxRecDepth 100000 in
theorem refName_any (A1 : Option Addr) (c1 : Nat) (vs : List SlH) (cl : List (List Int)) (A2 : Option Addr) (c2 : Nat) (os : List (Int × SlH)) (ol : List (List Int)) (w : World) (hv : kV.C w A1 vs.length vs) (hc1 : vs.length ≤ c1) (hos : kO.C w A2 os.length os) (hc2 : os.length ≤ c2)
    (hrv : RelV w vs cl) (hro : RelO w os ol) (hcl : ∀ t ∈ cl, tOk t) (hol : ∀ t ∈ ol, tOk t) (k a b c : Int) (ha : (Lit.int .i64 a).wf = true) (hb : (Lit.int .i64 b).wf = true) (hc : (Lit.int .i64 c).wf = true) :
    Calls Tryd.prog 30 #[.slice A1 vs.length c1, .slice A2 os.length c2, .agg #[.int .i64 k, .int .i64 a, .int .i64 b, .int .i64 c]] w fun e w' => e = .returned (.string (nameS cl ol k a b c)) ∧ Below w.heap.size w w' := by
  obtain ⟨tn, htn⟩ : ∃ t, nameS cl ol k a b c = t := ⟨_, rfl⟩
  rw [htn]
  have Htn := Aside0.mk htn
  have HV := Aside0.mk hv
  have HOs := Aside0.mk hos
  have HRV := Aside0.mk hrv
  have HRO := Aside0.mk hro
  have HC := Aside0.mk hcl
  have HO := Aside0.mk hol
  have HW := Aside0.mk (And.intro ha (And.intro hb hc))
  obtain ⟨r1, r2, r3, r4, r5, hpl⟩ : ∃ r1 r2 r3 r4 r5, pl k a b c = (r1, r2, r3, r4, r5) := ⟨_, _, _, _, _, rfl⟩
  have Hpl := Aside0.mk hpl
  have hwf := pl_wf (k := k) ha hb hc
  have htup : tup k a b c = [r1, r2, r3, r4] := by unfold tup; rw [hpl]
  rw [htup] at hwf
  have HWf := Aside0.mk hwf
  obtain ⟨g, hg⟩ : ∃ g, w.heap.size = g := ⟨_, rfl⟩
  have hwb : ∀ wb, w.alloc (.cells #[.int .i64 k, .int .i64 a, .int .i64 b, .int .i64 c] 46) = wb → wb.heap[g]? = some (.cells #[.int .i64 k, .int .i64 a, .int .i64 b, .int .i64 c] 46 (0, 0)) ∧ Below w.heap.size w wb := by
    rintro wb rfl
    subst hg
    exact ⟨heap_alloc_new _ _, below_alloc (Below.refl _ _) _⟩
  clear htn ha hb hc hcl hol hpl hv hos hrv hro hwf htup
  go_enter Tryd.func30, Tryd.ntmps30
  go_wp2_with fail
  have Hg := Aside0.mk hg
  clear hg
  generalize hqw : w.alloc (.cells #[.int .i64 k, .int .i64 a, .int .i64 b, .int .i64 c] 46) = wb
  obtain ⟨B0, hB⟩ := hwb wb hqw
  clear hwb hqw B0
  refine (refPlain_any _ _ _ _ _).mono ?_
  rintro e w1 ⟨rfl, h1⟩
  have HB := Aside0.mk (below_then hB hB.size h1)
  rw [Hpl.out]
  clear hB h1
  go_upto_region 2 with (fail)
  have hal := below_alloc (Below.refl w1.heap.size w1) (.cells #[.int .i64 r1, .int .i64 r2, .int .i64 r3, .int .i64 r4] 46)
  have HG0 := Aside0.mk (heap_alloc_new w1 (.cells #[.int .i64 r1, .int .i64 r2, .int .i64 r3, .int .i64 r4] 46))
  have HBW := Aside0.mk (below_then HB.out HB.out.size hal)
  clear hal HB
  generalize w1.alloc (.cells #[.int .i64 r1, .int .i64 r2, .int .i64 r3, .int .i64 r4] 46) = W at *
  generalize w1.heap.size = g7 at *
  cases r5 with
  | false =>
    have e1 : nameS cl ol k a b c = ⟨#[]⟩ := by unfold nameS okN; rw [Hpl.out]; rfl
    rw [Htn.out] at e1
    subst e1
    go_wp2_with fail
    go_ret
    exact ⟨rfl, HBW.out⟩
  | true =>
    have e1 : tn = wordsS (nameW cl ol k a b c) := by rw [← Htn.out]; unfold nameS okN; rw [Hpl.out]; rfl
    have E1 := Aside0.mk e1
    clear e1
    go_upto_region 5 with (fail)
    have g1 := blk_cell HG0.out 1
    obtain ⟨xs, hxs⟩ : ∃ xs, tupleOf cl r2 = xs := ⟨_, rfl⟩
    have Hxs := Aside0.mk hxs
    have HXok := Aside0.mk (show tOk xs by rw [← hxs]; exact tupleOf_mem cl r2 HC.out)
    have HXw := Aside0.mk HXok.out.2
    have HXl : Aside0 (xs.length ≤ 100) := ⟨Nat.le_trans HXok.out.1 (by decide)⟩
    obtain ⟨T, hT⟩ : ∃ T, textS xs = T := ⟨_, rfl⟩
    have HT := Aside0.mk hT
    have HTs := Aside0.mk (show T.size ≤ 1000 by rw [← hT]; exact text_size xs HXok.out)
    obtain ⟨B, hB⟩ : ∃ B, itoaS r3 = B := ⟨_, rfl⟩
    have HBd := Aside0.mk hB
    have HBs := Aside0.mk (show B.size ≤ 21 by rw [← hB]; exact itoaS_le (HWf.out r3 (by simp)))
    obtain ⟨D, hD⟩ : ∃ D, itoaS r4 = D := ⟨_, rfl⟩
    have HDd := Aside0.mk hD
    have HDs := Aside0.mk (show D.size ≤ 21 by rw [← hD]; exact itoaS_le (HWf.out r4 (by simp)))
    obtain ⟨E, hE⟩ : ∃ E, itoaS r2 = E := ⟨_, rfl⟩
    have HEd := Aside0.mk hE
    have HEs := Aside0.mk (show E.size ≤ 21 by rw [← hE]; exact itoaS_le (HWf.out r2 (by simp)))
    clear hT hB hD hE
    have hcase : (∃ xa xn xc, (0 ≤ r2) ∧ (r2 < (vs.length : Int)) ∧ Aside0 (RdV W (.slice xa xn xc) xs) ∧ ∃ ad : Addr, A1 = some ad ∧ W.cell? (ad.add r2.toNat) = some (.slice xa xn xc)) ∨ (xs = [] ∧ 0 ≤ r2 ∧ ¬ r2 < (vs.length : Int)) ∨ (xs = [] ∧ ¬ 0 ≤ r2) := by
      obtain ⟨hlen, hat⟩ := HRV.out.out
      by_cases h0 : 0 ≤ r2
      · by_cases h1 : r2 < (vs.length : Int)
        · refine .inl ?_
          obtain ⟨ad, cc, rfl, hcl, hK, hcell⟩ := Kd.C_get HV.out (none, 0, 0) r2 h0 h1
          have hlt : r2.toNat < vs.length := by omega
          have hK : cc = [.slice (vs.getD r2.toNat (none, 0, 0)).1 (vs.getD r2.toNat (none, 0, 0)).2.1 (vs.getD r2.toNat (none, 0, 0)).2.2] := hK
          have hrd := hat r2.toNat (vs.getD r2.toNat (none, 0, 0)) xs (by rw [List.getD, List.getElem?_eq_getElem hlt]; rfl) (by
            rw [← hxs]
            unfold tupleOf
            rw [if_pos ⟨h0, by omega⟩, List.getD, List.getElem?_eq_getElem (by omega)]
            rfl)
          generalize vs.getD r2.toNat (none, 0, 0) = x at hK hrd
          obtain ⟨xa, xn, xc⟩ := x
          subst hK
          have e0 : w.cell? (ad.add (r2.toNat * 1 + 0)) = some (.slice xa xn xc) := hcell 0 _ rfl
          have e1 : w.cell? (ad.add r2.toNat) = some (.slice xa xn xc) := by simpa using e0
          have hrd : RdV w (.slice xa xn xc) xs := hrd
          exact ⟨xa, xn, xc, h0, h1, ⟨hrd.below HBW.out⟩, ad, rfl, cell_bel2 HBW.out e1⟩
        · refine .inr (.inl ⟨?_, h0, h1⟩)
          rw [← hxs]
          unfold tupleOf
          rw [if_neg (by omega)]
      · refine .inr (.inr ⟨?_, h0⟩)
        rw [← hxs]
        unfold tupleOf
        rw [if_neg (by omega)]
    clear hxs
    have g1 := blk_cell HG0.out 1
    have g2 := blk_cell HG0.out 2
    rcases hcase with ⟨xa, xn, xc, h0, h1, HU, ad, rfl, e1⟩ | ⟨hx0, h0, h1⟩ | ⟨hx0, h0⟩
    · have d1 : decide (r2 ≥ 0) = true := decide_eq_true h0
      have d2 : decide (r2 < (vs.length : Int)) = true := decide_eq_true h1
      replace h0 := eq_true h0
      replace h1 := eq_true h1
      go_upto_region 7 with (fail)
      try clear h0
      try clear h1
      try clear d1
      try clear d2
      try clear e1
      go_wp2_with fail
      refine (refDigits_any r3 W (HWf.out r3 (by simp))).mono ?_
      rintro e w4 ⟨rfl, h4⟩
      rw [HBd.out]
      have HU4 := Aside0.mk (HU.out.below h4)
      have HG4 := Aside0.mk (blk_below' HG0.out h4)
      have HB4 := Aside0.mk (below_then HBW.out HBW.out.size h4)
      clear g1 g2 h4
      have g0 := blk_cell HG4.out 0
      have g1 := blk_cell HG4.out 1
      have g3 := blk_cell HG4.out 3
      have hpl := Hpl.out
      unfold pl at hpl
      by_cases k4 : k = 4
      · subst k4
        simp only [if_pos, Prod.mk.injEq] at hpl
        obtain ⟨rfl, rfl, rfl, rfl, _⟩ := hpl
        have s1 : (9223372036854775807 < 7 + E.size) = False := eq_false (by have := HEs.out; omega)
        go_wp2_with fail
        refine (refDigits_any a w4 HW.out.1).mono ?_
        rintro e w5 ⟨rfl, h5⟩
        rw [HEd.out]
        go_wp2_with fail
        go_ret
        exact ⟨by rw [E1.out, ← HEd.out]; exact congrArg (fun t => Ending.returned (.string t)) (nm_static _), below_then HB4.out HB4.out.size h5⟩
      rw [if_neg k4] at hpl
      by_cases k1 : k = 1
      · subst k1
        simp only [true_or, if_pos, Prod.mk.injEq] at hpl
        obtain ⟨rfl, rfl, rfl, rfl, _⟩ := hpl
        have s1 : (9223372036854775807 < 4 + B.size) = False := eq_false (by have := HBs.out; omega)
        have s2 : (9223372036854775807 < 4 + B.size + 1) = False := eq_false (by have := HBs.out; omega)
        have s3 : (9223372036854775807 < 4 + B.size + 1 + T.size) = False := eq_false (by have := HBs.out; have := HTs.out; omega)
        have HB1 := Below.refl w4.heap.size w4
        clear k4
        go_wp2_with fail
        refine (refText_any HU4.out HXl.out HXw.out).mono ?_
        rintro e w5 ⟨rfl, B5⟩
        rw [HT.out]
        have HB1 := B5
        go_wp2_with fail
        go_ret
        exact ⟨by rw [E1.out, ← HBd.out, ← HT.out, ← Hxs.out]; exact congrArg (fun t => Ending.returned (.string t)) (nm_ret _ _), below_then HB4.out HB4.out.size HB1⟩
      by_cases k2 : k = 2
      · subst k2
        simp only [true_or, or_true, if_pos, Prod.mk.injEq] at hpl
        obtain ⟨rfl, rfl, rfl, rfl, _⟩ := hpl
        have s1 : (9223372036854775807 < 4 + B.size) = False := eq_false (by have := HBs.out; omega)
        have s2 : (9223372036854775807 < 4 + B.size + 1) = False := eq_false (by have := HBs.out; omega)
        have s3 : (9223372036854775807 < 4 + B.size + 1 + T.size) = False := eq_false (by have := HBs.out; have := HTs.out; omega)
        have HB1 := Below.refl w4.heap.size w4
        clear k4 k1
        go_wp2_with fail
        refine (refText_any HU4.out HXl.out HXw.out).mono ?_
        rintro e w5 ⟨rfl, B5⟩
        rw [HT.out]
        have HB1 := B5
        go_wp2_with fail
        go_ret
        exact ⟨by rw [E1.out, ← HBd.out, ← HT.out, ← Hxs.out]; exact congrArg (fun t => Ending.returned (.string t)) (nm_exc _ _), below_then HB4.out HB4.out.size HB1⟩
      by_cases k0 : k = 0
      · subst k0
        rw [if_neg (by decide), if_pos rfl] at hpl
        simp only [Prod.mk.injEq] at hpl
        obtain ⟨rfl, rfl, rfl, rfl, _⟩ := hpl
        have s1 : (9223372036854775807 < 4 + B.size) = False := eq_false (by have := HBs.out; omega)
        have s2 : (9223372036854775807 < 4 + B.size + 1) = False := eq_false (by have := HBs.out; omega)
        have s3 : (9223372036854775807 < 4 + B.size + 1 + T.size) = False := eq_false (by have := HBs.out; have := HTs.out; omega)
        have s4 : (9223372036854775807 < 4 + B.size + 1 + T.size + 1) = False := eq_false (by have := HBs.out; have := HTs.out; omega)
        have s5 : (9223372036854775807 < 4 + B.size + 1 + T.size + 1 + D.size) = False := eq_false (by have := HBs.out; have := HTs.out; have := HDs.out; omega)
        have HB1 := Below.refl w4.heap.size w4
        clear k4 k1 k2
        go_wp2_with fail
        go_region_held3 (fun w' => w'.cell? ⟨g7, 3, none⟩ = some (.int .i64 c) ∧ Below w4.heap.size w4 w') (first | (exact ⟨bel_cell HB1 g3, HB1⟩) | (refine ⟨bel_cell (wb := w4) ?_ g3, ?_⟩ <;> simp [*]))
          (first
            | (go_at_call 21; (with_reducible refine (refText_any (HU4.out.below (by simp [*])) HXl.out HXw.out).mono ?_); rintro e w5 ⟨rfl, B5⟩; rw [HT.out]; have HB2 := bel_trans (wb := w4) (by simp [*]) B5; clear HB1 B5; have HB1 := HB2; clear HB2)
            | (go_at_call 50; (with_reducible refine (refDigits_any c _ HW.out.2.2).mono ?_); rintro e w6 ⟨rfl, B6⟩; rw [HDd.out]; have HB2 := bel_trans (wb := w4) (by simp [*]) B6; clear HB1 B6; have HB1 := HB2; clear HB2)
            | (fail))
        all_goals go_wp2_with fail
        all_goals go_ret
        all_goals exact ⟨by rw [E1.out, ← HBd.out, ← HT.out, ← Hxs.out, ← HDd.out]; exact congrArg (fun t => Ending.returned (.string t)) (nm_var _ _ _), below_then HB4.out HB4.out.size HB1⟩
      by_cases k3 : k = 3
      · subst k3
        rw [if_pos (by decide)] at hpl
        simp only [Prod.mk.injEq] at hpl
        obtain ⟨rfl, rfl, rfl, rfl, _⟩ := hpl
        clear k4 k1 k2 k0
        obtain ⟨hyok, hsw⟩ := placeOf_ok ol a HO.out
        have hsite : siteOf ol a = (tupleOf ol a).headD 0 := rfl
        have hplace : placeOf ol a = (tupleOf ol a).tail := rfl
        obtain ⟨st, hst⟩ : ∃ st, siteOf ol a = st := ⟨_, rfl⟩
        obtain ⟨ys, hys⟩ : ∃ ys, placeOf ol a = ys := ⟨_, rfl⟩
        have Hst := Aside0.mk hst
        have Hys := Aside0.mk hys
        rw [hst] at hsw hsite
        rw [hys] at hyok hplace
        have HSw := Aside0.mk hsw
        have HYw := Aside0.mk hyok.2
        have HYl : Aside0 (ys.length ≤ 100) := ⟨Nat.le_trans hyok.1 (by decide)⟩
        obtain ⟨T2, hT2⟩ : ∃ T, textS ys = T := ⟨_, rfl⟩
        have HT2 := Aside0.mk hT2
        have hT2s : T2.size ≤ 1000 := by rw [← hT2]; exact text_size ys hyok
        obtain ⟨S, hS⟩ : ∃ S, itoaS st = S := ⟨_, rfl⟩
        have HSd := Aside0.mk hS
        have hSs : S.size ≤ 21 := by rw [← hS]; exact itoaS_le hsw
        have s1 : (9223372036854775807 < 6 + S.size) = False := eq_false (by omega)
        have s2 : (9223372036854775807 < 6 + S.size + 1) = False := eq_false (by omega)
        have s3 : (9223372036854775807 < 6 + S.size + 1 + T2.size) = False := eq_false (by omega)
        have s4 : (9223372036854775807 < 6 + S.size + 1 + T2.size + 1) = False := eq_false (by omega)
        have s5 : (9223372036854775807 < 6 + S.size + 1 + T2.size + 1 + B.size) = False := eq_false (by have := HBs.out; omega)
        have hob : (∃ oa on oc, (0 ≤ a) ∧ (a < (os.length : Int)) ∧ Aside0 (RdV w (.slice oa on oc) ys) ∧ ∃ ad : Addr, A2 = some ad ∧ w4.cell? (ad.add (a.toNat * 2)) = some (.int .i64 st) ∧ w4.cell? ⟨(ad.add (a.toNat * 2)).block, (ad.add (a.toNat * 2)).off + 1, none⟩ = some (.slice oa on oc)) ∨ (ys = [] ∧ st = 0 ∧ 0 ≤ a ∧ ¬ a < (os.length : Int)) ∨ (ys = [] ∧ st = 0 ∧ ¬ 0 ≤ a) := by
          obtain ⟨hlen, hat⟩ := HRO.out.out
          by_cases h0 : 0 ≤ a
          · by_cases h1 : a < (os.length : Int)
            · refine .inl ?_
              obtain ⟨ad, cc, rfl, hcl, hK, hcell⟩ := Kd.C_get HOs.out (0, none, 0, 0) a h0 h1
              have hlt : a.toNat < os.length := by omega
              have hK : cc = [.int .i64 (os.getD a.toNat (0, none, 0, 0)).1, .slice (os.getD a.toNat (0, none, 0, 0)).2.1 (os.getD a.toNat (0, none, 0, 0)).2.2.1 (os.getD a.toNat (0, none, 0, 0)).2.2.2] := hK
              obtain ⟨m, he, hrd⟩ := hat a.toNat (os.getD a.toNat (0, none, 0, 0)) (tupleOf ol a) (by rw [List.getD, List.getElem?_eq_getElem hlt]; rfl) (by
                unfold tupleOf
                rw [if_pos ⟨h0, by omega⟩, List.getD, List.getElem?_eq_getElem (by omega)]
                rfl)
              generalize os.getD a.toNat (0, none, 0, 0) = x at hK hrd he
              obtain ⟨xs', xa, xn, xc⟩ := x
              rw [he] at hsite hplace
              have hsite : st = xs' := hsite
              have hplace : ys = m := hplace
              subst hK hsite hplace
              have e0 : w.cell? (ad.add (a.toNat * 2 + 0)) = some (.int .i64 st) := hcell 0 _ rfl
              have e0 : w.cell? (ad.add (a.toNat * 2)) = some (.int .i64 st) := by simpa using e0
              have e1 : w.cell? (ad.add (a.toNat * 2 + (0 + 1))) = some (.slice xa xn xc) := hcell 1 _ rfl
              rw [add_more] at e1
              have hrd : RdV w (.slice xa xn xc) ys := hrd
              exact ⟨xa, xn, xc, h0, h1, ⟨hrd⟩, ad, rfl, cell_bel2 HB4.out e0, cell_bel2 HB4.out e1⟩
            · have ht : tupleOf ol a = [] := by
                unfold tupleOf
                rw [if_neg (by omega)]
              rw [ht] at hsite hplace
              exact .inr (.inl ⟨hplace, hsite, h0, h1⟩)
          · have ht : tupleOf ol a = [] := by
              unfold tupleOf
              rw [if_neg (by omega)]
            rw [ht] at hsite hplace
            exact .inr (.inr ⟨hplace, hsite, h0⟩)
        clear hyok hsw hsite hplace hst hys hT2 hS hT2s hSs
        rcases hob with ⟨oa, on, oc, o0, o1, HY, ad9, rfl, e3, e4⟩ | ⟨hy0, hs0, o0, o1⟩ | ⟨hy0, hs0, o0⟩
        · have d3 : decide (a ≥ 0) = true := decide_eq_true o0
          have d4 : decide (a < (os.length : Int)) = true := decide_eq_true o1
          replace o0 := eq_true o0
          replace o1 := eq_true o1
          go_upto_region 17 with (fail)
          have hal := below_alloc (Below.refl w4.heap.size w4) (.cells #[.int .i64 0, .slice none 0 0] 36)
          have HZ0 := Aside0.mk (heap_alloc_new w4 (.cells #[.int .i64 0, .slice none 0 0] 36))
          have HB5 := Aside0.mk (below_then HB4.out HB4.out.size hal)
          have HG5 := Aside0.mk (blk_below' HG4.out hal)
          have hge := HB4.out.size
          have e5 := cell_bel2 hal e3
          have e6 := cell_bel2 hal e4
          clear e3 e4
          clear hal g0 g1 g3
          generalize w4.alloc (.cells #[.int .i64 0, .slice none 0 0] 36) = w8 at *
          generalize w4.heap.size = g8 at *
          have g1 := blk_cell HG5.out 1
          have y0 := blk_cell HZ0.out 0
          have y1 := blk_cell HZ0.out 1
          have f0 := blk_frozen HZ0.out 0
          have f1 := blk_frozen HZ0.out 1
          have P0 := blk_put (blk_put HZ0.out 0 (.int .i64 st) rfl) 1 (.slice oa on oc) rfl
          have HB8 := Aside0.mk (below_setCell (below_setCell HB5.out (p := ⟨g8, 0, none⟩) hge (.int .i64 st)) (p := ⟨g8, 1, none⟩) hge (.slice oa on oc))
          have HZ := Aside0.mk P0
          have HY8 := Aside0.mk (HY.out.below HB8.out)
          clear P0
          go_upto_region 19 with (fail)
          clear y0 y1 f0 f1 g1 e5 e6
          generalize (w8.setCell ⟨g8, 0, none⟩ (.int .i64 st)).setCell ⟨g8, 1, none⟩ (.slice oa on oc) = w9 at *
          have y0 : w9.cell? ⟨g8, 0, none⟩ = some (.int .i64 st) := blk_cell HZ.out 0
          have y1 : w9.cell? ⟨g8, 1, none⟩ = some (.slice oa on oc) := blk_cell HZ.out 1
          have HB1 := Below.refl w9.heap.size w9
          go_region_held3 (fun w' => w'.cell? ⟨g8, 0, none⟩ = some (.int .i64 st) ∧ w'.cell? ⟨g8, 1, none⟩ = some (.slice oa on oc) ∧ Below w9.heap.size w9 w') (first | (exact ⟨bel_cell HB1 y0, bel_cell HB1 y1, HB1⟩) | (refine ⟨bel_cell (wb := w9) ?_ y0, bel_cell (wb := w9) ?_ y1, ?_⟩ <;> simp [*]))
            (first
              | (go_at_call 50; (with_reducible refine (refDigits_any st _ HSw.out).mono ?_); rintro e w5 ⟨rfl, B5⟩; rw [HSd.out]; have HB2 := bel_trans (wb := w9) (by simp [*]) B5; clear HB1 B5; have HB1 := HB2; clear HB2)
              | (go_at_call 21; (with_reducible refine (refText_any (HY8.out.below (by simp [*])) HYl.out HYw.out).mono ?_); rintro e w6 ⟨rfl, B6⟩; rw [HT2.out]; have HB2 := bel_trans (wb := w9) (by simp [*]) B6; clear HB1 B6; have HB1 := HB2; clear HB2)
              | (fail))
          all_goals go_wp2_with fail
          all_goals go_ret
          all_goals exact ⟨by rw [E1.out, ← HBd.out, ← HSd.out, ← HT2.out, ← Hys.out]; exact (congrArg (fun t => Ending.returned (.string t)) (nm_field _ _ _)).trans (by rw [← Hst.out]; rfl), below_then HB8.out HB8.out.size HB1⟩
        · have d4 : decide (a < (os.length : Int)) = false := decide_eq_false o1
          have d3 : decide (a ≥ 0) = true := decide_eq_true o0
          subst hs0
          have HY : Aside0 (RdV w (.slice none 0 0) ys) := ⟨by rw [hy0]; exact RdV.nil _⟩
          clear hy0
          replace o0 := eq_true o0
          go_upto_region 17 with (fail)
          have hal := below_alloc (Below.refl w4.heap.size w4) (.cells #[.int .i64 0, .slice none 0 0] 36)
          have HZ0 := Aside0.mk (heap_alloc_new w4 (.cells #[.int .i64 0, .slice none 0 0] 36))
          have HB5 := Aside0.mk (below_then HB4.out HB4.out.size hal)
          have HG5 := Aside0.mk (blk_below' HG4.out hal)
          have hge := HB4.out.size
          clear hal g0 g1 g3
          generalize w4.alloc (.cells #[.int .i64 0, .slice none 0 0] 36) = w8 at *
          generalize w4.heap.size = g8 at *
          have g1 := blk_cell HG5.out 1
          have HB8 := HB5
          have HZ := HZ0
          have HY8 := Aside0.mk (HY.out.below HB8.out)
          go_upto_region 19 with (fail)
          generalize w8 = w9 at *
          have y0 := blk_cell HZ.out 0
          have y1 := blk_cell HZ.out 1
          have HB1 := Below.refl w9.heap.size w9
          go_region_held3 (fun w' => w'.cell? ⟨g8, 0, none⟩ = some (.int .i64 0) ∧ w'.cell? ⟨g8, 1, none⟩ = some (.slice none 0 0) ∧ Below w9.heap.size w9 w') (first | (exact ⟨bel_cell HB1 y0, bel_cell HB1 y1, HB1⟩) | (refine ⟨bel_cell (wb := w9) ?_ y0, bel_cell (wb := w9) ?_ y1, ?_⟩ <;> simp [*]))
            (first
              | (go_at_call 50; (with_reducible refine (refDigits_any 0 _ HSw.out).mono ?_); rintro e w5 ⟨rfl, B5⟩; rw [HSd.out]; have HB2 := bel_trans (wb := w9) (by simp [*]) B5; clear HB1 B5; have HB1 := HB2; clear HB2)
              | (go_at_call 21; (with_reducible refine (refText_any (HY8.out.below (by simp [*])) HYl.out HYw.out).mono ?_); rintro e w6 ⟨rfl, B6⟩; rw [HT2.out]; have HB2 := bel_trans (wb := w9) (by simp [*]) B6; clear HB1 B6; have HB1 := HB2; clear HB2)
              | (fail))
          all_goals go_wp2_with fail
          all_goals go_ret
          all_goals exact ⟨by rw [E1.out, ← HBd.out, ← HSd.out, ← HT2.out, ← Hys.out]; exact (congrArg (fun t => Ending.returned (.string t)) (nm_field _ _ _)).trans (by rw [← Hst.out]; rfl), below_then HB8.out HB8.out.size HB1⟩
        · have d3 : decide (a ≥ 0) = false := decide_eq_false o0
          have d4 : decide (0 ≤ a) = false := decide_eq_false o0
          subst hs0
          have HY : Aside0 (RdV w (.slice none 0 0) ys) := ⟨by rw [hy0]; exact RdV.nil _⟩
          clear hy0
          go_upto_region 17 with (fail)
          have hal := below_alloc (Below.refl w4.heap.size w4) (.cells #[.int .i64 0, .slice none 0 0] 36)
          have HZ0 := Aside0.mk (heap_alloc_new w4 (.cells #[.int .i64 0, .slice none 0 0] 36))
          have HB5 := Aside0.mk (below_then HB4.out HB4.out.size hal)
          have HG5 := Aside0.mk (blk_below' HG4.out hal)
          have hge := HB4.out.size
          clear hal g0 g1 g3
          generalize w4.alloc (.cells #[.int .i64 0, .slice none 0 0] 36) = w8 at *
          generalize w4.heap.size = g8 at *
          have g1 := blk_cell HG5.out 1
          have HB8 := HB5
          have HZ := HZ0
          have HY8 := Aside0.mk (HY.out.below HB8.out)
          go_upto_region 19 with (fail)
          generalize w8 = w9 at *
          have y0 := blk_cell HZ.out 0
          have y1 := blk_cell HZ.out 1
          have HB1 := Below.refl w9.heap.size w9
          go_region_held3 (fun w' => w'.cell? ⟨g8, 0, none⟩ = some (.int .i64 0) ∧ w'.cell? ⟨g8, 1, none⟩ = some (.slice none 0 0) ∧ Below w9.heap.size w9 w') (first | (exact ⟨bel_cell HB1 y0, bel_cell HB1 y1, HB1⟩) | (refine ⟨bel_cell (wb := w9) ?_ y0, bel_cell (wb := w9) ?_ y1, ?_⟩ <;> simp [*]))
            (first
              | (go_at_call 50; (with_reducible refine (refDigits_any 0 _ HSw.out).mono ?_); rintro e w5 ⟨rfl, B5⟩; rw [HSd.out]; have HB2 := bel_trans (wb := w9) (by simp [*]) B5; clear HB1 B5; have HB1 := HB2; clear HB2)
              | (go_at_call 21; (with_reducible refine (refText_any (HY8.out.below (by simp [*])) HYl.out HYw.out).mono ?_); rintro e w6 ⟨rfl, B6⟩; rw [HT2.out]; have HB2 := bel_trans (wb := w9) (by simp [*]) B6; clear HB1 B6; have HB1 := HB2; clear HB2)
              | (fail))
          all_goals go_wp2_with fail
          all_goals go_ret
          all_goals exact ⟨by rw [E1.out, ← HBd.out, ← HSd.out, ← HT2.out, ← Hys.out]; exact (congrArg (fun t => Ending.returned (.string t)) (nm_field _ _ _)).trans (by rw [← Hst.out]; rfl), below_then HB8.out HB8.out.size HB1⟩
      · rw [if_neg (by omega), if_neg k0] at hpl
        simp at hpl
    · have d2 : decide (r2 < (vs.length : Int)) = false := decide_eq_false h1
      have d1 : decide (r2 ≥ 0) = true := decide_eq_true h0
      have HU : Aside0 (RdV W (.slice none 0 0) xs) := ⟨by rw [hx0]; exact RdV.nil _⟩
      clear hx0
      replace h0 := eq_true h0
      go_upto_region 7 with (fail)
      try clear h0
      try clear h1
      try clear d1
      try clear d2
      try clear e1
      go_wp2_with fail
      refine (refDigits_any r3 W (HWf.out r3 (by simp))).mono ?_
      rintro e w4 ⟨rfl, h4⟩
      rw [HBd.out]
      have HU4 := Aside0.mk (HU.out.below h4)
      have HG4 := Aside0.mk (blk_below' HG0.out h4)
      have HB4 := Aside0.mk (below_then HBW.out HBW.out.size h4)
      clear g1 g2 h4
      have g0 := blk_cell HG4.out 0
      have g1 := blk_cell HG4.out 1
      have g3 := blk_cell HG4.out 3
      have hpl := Hpl.out
      unfold pl at hpl
      by_cases k4 : k = 4
      · subst k4
        simp only [if_pos, Prod.mk.injEq] at hpl
        obtain ⟨rfl, rfl, rfl, rfl, _⟩ := hpl
        have s1 : (9223372036854775807 < 7 + E.size) = False := eq_false (by have := HEs.out; omega)
        go_wp2_with fail
        refine (refDigits_any a w4 HW.out.1).mono ?_
        rintro e w5 ⟨rfl, h5⟩
        rw [HEd.out]
        go_wp2_with fail
        go_ret
        exact ⟨by rw [E1.out, ← HEd.out]; exact congrArg (fun t => Ending.returned (.string t)) (nm_static _), below_then HB4.out HB4.out.size h5⟩
      rw [if_neg k4] at hpl
      by_cases k1 : k = 1
      · subst k1
        simp only [true_or, if_pos, Prod.mk.injEq] at hpl
        obtain ⟨rfl, rfl, rfl, rfl, _⟩ := hpl
        have s1 : (9223372036854775807 < 4 + B.size) = False := eq_false (by have := HBs.out; omega)
        have s2 : (9223372036854775807 < 4 + B.size + 1) = False := eq_false (by have := HBs.out; omega)
        have s3 : (9223372036854775807 < 4 + B.size + 1 + T.size) = False := eq_false (by have := HBs.out; have := HTs.out; omega)
        have HB1 := Below.refl w4.heap.size w4
        clear k4
        go_wp2_with fail
        refine (refText_any HU4.out HXl.out HXw.out).mono ?_
        rintro e w5 ⟨rfl, B5⟩
        rw [HT.out]
        have HB1 := B5
        go_wp2_with fail
        go_ret
        exact ⟨by rw [E1.out, ← HBd.out, ← HT.out, ← Hxs.out]; exact congrArg (fun t => Ending.returned (.string t)) (nm_ret _ _), below_then HB4.out HB4.out.size HB1⟩
      by_cases k2 : k = 2
      · subst k2
        simp only [true_or, or_true, if_pos, Prod.mk.injEq] at hpl
        obtain ⟨rfl, rfl, rfl, rfl, _⟩ := hpl
        have s1 : (9223372036854775807 < 4 + B.size) = False := eq_false (by have := HBs.out; omega)
        have s2 : (9223372036854775807 < 4 + B.size + 1) = False := eq_false (by have := HBs.out; omega)
        have s3 : (9223372036854775807 < 4 + B.size + 1 + T.size) = False := eq_false (by have := HBs.out; have := HTs.out; omega)
        have HB1 := Below.refl w4.heap.size w4
        clear k4 k1
        go_wp2_with fail
        refine (refText_any HU4.out HXl.out HXw.out).mono ?_
        rintro e w5 ⟨rfl, B5⟩
        rw [HT.out]
        have HB1 := B5
        go_wp2_with fail
        go_ret
        exact ⟨by rw [E1.out, ← HBd.out, ← HT.out, ← Hxs.out]; exact congrArg (fun t => Ending.returned (.string t)) (nm_exc _ _), below_then HB4.out HB4.out.size HB1⟩
      by_cases k0 : k = 0
      · subst k0
        rw [if_neg (by decide), if_pos rfl] at hpl
        simp only [Prod.mk.injEq] at hpl
        obtain ⟨rfl, rfl, rfl, rfl, _⟩ := hpl
        have s1 : (9223372036854775807 < 4 + B.size) = False := eq_false (by have := HBs.out; omega)
        have s2 : (9223372036854775807 < 4 + B.size + 1) = False := eq_false (by have := HBs.out; omega)
        have s3 : (9223372036854775807 < 4 + B.size + 1 + T.size) = False := eq_false (by have := HBs.out; have := HTs.out; omega)
        have s4 : (9223372036854775807 < 4 + B.size + 1 + T.size + 1) = False := eq_false (by have := HBs.out; have := HTs.out; omega)
        have s5 : (9223372036854775807 < 4 + B.size + 1 + T.size + 1 + D.size) = False := eq_false (by have := HBs.out; have := HTs.out; have := HDs.out; omega)
        have HB1 := Below.refl w4.heap.size w4
        clear k4 k1 k2
        go_wp2_with fail
        go_region_held3 (fun w' => w'.cell? ⟨g7, 3, none⟩ = some (.int .i64 c) ∧ Below w4.heap.size w4 w') (first | (exact ⟨bel_cell HB1 g3, HB1⟩) | (refine ⟨bel_cell (wb := w4) ?_ g3, ?_⟩ <;> simp [*]))
          (first
            | (go_at_call 21; (with_reducible refine (refText_any (HU4.out.below (by simp [*])) HXl.out HXw.out).mono ?_); rintro e w5 ⟨rfl, B5⟩; rw [HT.out]; have HB2 := bel_trans (wb := w4) (by simp [*]) B5; clear HB1 B5; have HB1 := HB2; clear HB2)
            | (go_at_call 50; (with_reducible refine (refDigits_any c _ HW.out.2.2).mono ?_); rintro e w6 ⟨rfl, B6⟩; rw [HDd.out]; have HB2 := bel_trans (wb := w4) (by simp [*]) B6; clear HB1 B6; have HB1 := HB2; clear HB2)
            | (fail))
        all_goals go_wp2_with fail
        all_goals go_ret
        all_goals exact ⟨by rw [E1.out, ← HBd.out, ← HT.out, ← Hxs.out, ← HDd.out]; exact congrArg (fun t => Ending.returned (.string t)) (nm_var _ _ _), below_then HB4.out HB4.out.size HB1⟩
      by_cases k3 : k = 3
      · subst k3
        rw [if_pos (by decide)] at hpl
        simp only [Prod.mk.injEq] at hpl
        obtain ⟨rfl, rfl, rfl, rfl, _⟩ := hpl
        clear k4 k1 k2 k0
        obtain ⟨hyok, hsw⟩ := placeOf_ok ol a HO.out
        have hsite : siteOf ol a = (tupleOf ol a).headD 0 := rfl
        have hplace : placeOf ol a = (tupleOf ol a).tail := rfl
        obtain ⟨st, hst⟩ : ∃ st, siteOf ol a = st := ⟨_, rfl⟩
        obtain ⟨ys, hys⟩ : ∃ ys, placeOf ol a = ys := ⟨_, rfl⟩
        have Hst := Aside0.mk hst
        have Hys := Aside0.mk hys
        rw [hst] at hsw hsite
        rw [hys] at hyok hplace
        have HSw := Aside0.mk hsw
        have HYw := Aside0.mk hyok.2
        have HYl : Aside0 (ys.length ≤ 100) := ⟨Nat.le_trans hyok.1 (by decide)⟩
        obtain ⟨T2, hT2⟩ : ∃ T, textS ys = T := ⟨_, rfl⟩
        have HT2 := Aside0.mk hT2
        have hT2s : T2.size ≤ 1000 := by rw [← hT2]; exact text_size ys hyok
        obtain ⟨S, hS⟩ : ∃ S, itoaS st = S := ⟨_, rfl⟩
        have HSd := Aside0.mk hS
        have hSs : S.size ≤ 21 := by rw [← hS]; exact itoaS_le hsw
        have s1 : (9223372036854775807 < 6 + S.size) = False := eq_false (by omega)
        have s2 : (9223372036854775807 < 6 + S.size + 1) = False := eq_false (by omega)
        have s3 : (9223372036854775807 < 6 + S.size + 1 + T2.size) = False := eq_false (by omega)
        have s4 : (9223372036854775807 < 6 + S.size + 1 + T2.size + 1) = False := eq_false (by omega)
        have s5 : (9223372036854775807 < 6 + S.size + 1 + T2.size + 1 + B.size) = False := eq_false (by have := HBs.out; omega)
        have hob : (∃ oa on oc, (0 ≤ a) ∧ (a < (os.length : Int)) ∧ Aside0 (RdV w (.slice oa on oc) ys) ∧ ∃ ad : Addr, A2 = some ad ∧ w4.cell? (ad.add (a.toNat * 2)) = some (.int .i64 st) ∧ w4.cell? ⟨(ad.add (a.toNat * 2)).block, (ad.add (a.toNat * 2)).off + 1, none⟩ = some (.slice oa on oc)) ∨ (ys = [] ∧ st = 0 ∧ 0 ≤ a ∧ ¬ a < (os.length : Int)) ∨ (ys = [] ∧ st = 0 ∧ ¬ 0 ≤ a) := by
          obtain ⟨hlen, hat⟩ := HRO.out.out
          by_cases h0 : 0 ≤ a
          · by_cases h1 : a < (os.length : Int)
            · refine .inl ?_
              obtain ⟨ad, cc, rfl, hcl, hK, hcell⟩ := Kd.C_get HOs.out (0, none, 0, 0) a h0 h1
              have hlt : a.toNat < os.length := by omega
              have hK : cc = [.int .i64 (os.getD a.toNat (0, none, 0, 0)).1, .slice (os.getD a.toNat (0, none, 0, 0)).2.1 (os.getD a.toNat (0, none, 0, 0)).2.2.1 (os.getD a.toNat (0, none, 0, 0)).2.2.2] := hK
              obtain ⟨m, he, hrd⟩ := hat a.toNat (os.getD a.toNat (0, none, 0, 0)) (tupleOf ol a) (by rw [List.getD, List.getElem?_eq_getElem hlt]; rfl) (by
                unfold tupleOf
                rw [if_pos ⟨h0, by omega⟩, List.getD, List.getElem?_eq_getElem (by omega)]
                rfl)
              generalize os.getD a.toNat (0, none, 0, 0) = x at hK hrd he
              obtain ⟨xs', xa, xn, xc⟩ := x
              rw [he] at hsite hplace
              have hsite : st = xs' := hsite
              have hplace : ys = m := hplace
              subst hK hsite hplace
              have e0 : w.cell? (ad.add (a.toNat * 2 + 0)) = some (.int .i64 st) := hcell 0 _ rfl
              have e0 : w.cell? (ad.add (a.toNat * 2)) = some (.int .i64 st) := by simpa using e0
              have e1 : w.cell? (ad.add (a.toNat * 2 + (0 + 1))) = some (.slice xa xn xc) := hcell 1 _ rfl
              rw [add_more] at e1
              have hrd : RdV w (.slice xa xn xc) ys := hrd
              exact ⟨xa, xn, xc, h0, h1, ⟨hrd⟩, ad, rfl, cell_bel2 HB4.out e0, cell_bel2 HB4.out e1⟩
            · have ht : tupleOf ol a = [] := by
                unfold tupleOf
                rw [if_neg (by omega)]
              rw [ht] at hsite hplace
              exact .inr (.inl ⟨hplace, hsite, h0, h1⟩)
          · have ht : tupleOf ol a = [] := by
              unfold tupleOf
              rw [if_neg (by omega)]
            rw [ht] at hsite hplace
            exact .inr (.inr ⟨hplace, hsite, h0⟩)
        clear hyok hsw hsite hplace hst hys hT2 hS hT2s hSs
        rcases hob with ⟨oa, on, oc, o0, o1, HY, ad9, rfl, e3, e4⟩ | ⟨hy0, hs0, o0, o1⟩ | ⟨hy0, hs0, o0⟩
        · have d3 : decide (a ≥ 0) = true := decide_eq_true o0
          have d4 : decide (a < (os.length : Int)) = true := decide_eq_true o1
          replace o0 := eq_true o0
          replace o1 := eq_true o1
          go_upto_region 17 with (fail)
          have hal := below_alloc (Below.refl w4.heap.size w4) (.cells #[.int .i64 0, .slice none 0 0] 36)
          have HZ0 := Aside0.mk (heap_alloc_new w4 (.cells #[.int .i64 0, .slice none 0 0] 36))
          have HB5 := Aside0.mk (below_then HB4.out HB4.out.size hal)
          have HG5 := Aside0.mk (blk_below' HG4.out hal)
          have hge := HB4.out.size
          have e5 := cell_bel2 hal e3
          have e6 := cell_bel2 hal e4
          clear e3 e4
          clear hal g0 g1 g3
          generalize w4.alloc (.cells #[.int .i64 0, .slice none 0 0] 36) = w8 at *
          generalize w4.heap.size = g8 at *
          have g1 := blk_cell HG5.out 1
          have y0 := blk_cell HZ0.out 0
          have y1 := blk_cell HZ0.out 1
          have f0 := blk_frozen HZ0.out 0
          have f1 := blk_frozen HZ0.out 1
          have P0 := blk_put (blk_put HZ0.out 0 (.int .i64 st) rfl) 1 (.slice oa on oc) rfl
          have HB8 := Aside0.mk (below_setCell (below_setCell HB5.out (p := ⟨g8, 0, none⟩) hge (.int .i64 st)) (p := ⟨g8, 1, none⟩) hge (.slice oa on oc))
          have HZ := Aside0.mk P0
          have HY8 := Aside0.mk (HY.out.below HB8.out)
          clear P0
          go_upto_region 19 with (fail)
          clear y0 y1 f0 f1 g1 e5 e6
          generalize (w8.setCell ⟨g8, 0, none⟩ (.int .i64 st)).setCell ⟨g8, 1, none⟩ (.slice oa on oc) = w9 at *
          have y0 : w9.cell? ⟨g8, 0, none⟩ = some (.int .i64 st) := blk_cell HZ.out 0
          have y1 : w9.cell? ⟨g8, 1, none⟩ = some (.slice oa on oc) := blk_cell HZ.out 1
          have HB1 := Below.refl w9.heap.size w9
          go_region_held3 (fun w' => w'.cell? ⟨g8, 0, none⟩ = some (.int .i64 st) ∧ w'.cell? ⟨g8, 1, none⟩ = some (.slice oa on oc) ∧ Below w9.heap.size w9 w') (first | (exact ⟨bel_cell HB1 y0, bel_cell HB1 y1, HB1⟩) | (refine ⟨bel_cell (wb := w9) ?_ y0, bel_cell (wb := w9) ?_ y1, ?_⟩ <;> simp [*]))
            (first
              | (go_at_call 50; (with_reducible refine (refDigits_any st _ HSw.out).mono ?_); rintro e w5 ⟨rfl, B5⟩; rw [HSd.out]; have HB2 := bel_trans (wb := w9) (by simp [*]) B5; clear HB1 B5; have HB1 := HB2; clear HB2)
              | (go_at_call 21; (with_reducible refine (refText_any (HY8.out.below (by simp [*])) HYl.out HYw.out).mono ?_); rintro e w6 ⟨rfl, B6⟩; rw [HT2.out]; have HB2 := bel_trans (wb := w9) (by simp [*]) B6; clear HB1 B6; have HB1 := HB2; clear HB2)
              | (fail))
          all_goals go_wp2_with fail
          all_goals go_ret
          all_goals exact ⟨by rw [E1.out, ← HBd.out, ← HSd.out, ← HT2.out, ← Hys.out]; exact (congrArg (fun t => Ending.returned (.string t)) (nm_field _ _ _)).trans (by rw [← Hst.out]; rfl), below_then HB8.out HB8.out.size HB1⟩
        · have d4 : decide (a < (os.length : Int)) = false := decide_eq_false o1
          have d3 : decide (a ≥ 0) = true := decide_eq_true o0
          subst hs0
          have HY : Aside0 (RdV w (.slice none 0 0) ys) := ⟨by rw [hy0]; exact RdV.nil _⟩
          clear hy0
          replace o0 := eq_true o0
          go_upto_region 17 with (fail)
          have hal := below_alloc (Below.refl w4.heap.size w4) (.cells #[.int .i64 0, .slice none 0 0] 36)
          have HZ0 := Aside0.mk (heap_alloc_new w4 (.cells #[.int .i64 0, .slice none 0 0] 36))
          have HB5 := Aside0.mk (below_then HB4.out HB4.out.size hal)
          have HG5 := Aside0.mk (blk_below' HG4.out hal)
          have hge := HB4.out.size
          clear hal g0 g1 g3
          generalize w4.alloc (.cells #[.int .i64 0, .slice none 0 0] 36) = w8 at *
          generalize w4.heap.size = g8 at *
          have g1 := blk_cell HG5.out 1
          have HB8 := HB5
          have HZ := HZ0
          have HY8 := Aside0.mk (HY.out.below HB8.out)
          go_upto_region 19 with (fail)
          generalize w8 = w9 at *
          have y0 := blk_cell HZ.out 0
          have y1 := blk_cell HZ.out 1
          have HB1 := Below.refl w9.heap.size w9
          go_region_held3 (fun w' => w'.cell? ⟨g8, 0, none⟩ = some (.int .i64 0) ∧ w'.cell? ⟨g8, 1, none⟩ = some (.slice none 0 0) ∧ Below w9.heap.size w9 w') (first | (exact ⟨bel_cell HB1 y0, bel_cell HB1 y1, HB1⟩) | (refine ⟨bel_cell (wb := w9) ?_ y0, bel_cell (wb := w9) ?_ y1, ?_⟩ <;> simp [*]))
            (first
              | (go_at_call 50; (with_reducible refine (refDigits_any 0 _ HSw.out).mono ?_); rintro e w5 ⟨rfl, B5⟩; rw [HSd.out]; have HB2 := bel_trans (wb := w9) (by simp [*]) B5; clear HB1 B5; have HB1 := HB2; clear HB2)
              | (go_at_call 21; (with_reducible refine (refText_any (HY8.out.below (by simp [*])) HYl.out HYw.out).mono ?_); rintro e w6 ⟨rfl, B6⟩; rw [HT2.out]; have HB2 := bel_trans (wb := w9) (by simp [*]) B6; clear HB1 B6; have HB1 := HB2; clear HB2)
              | (fail))
          all_goals go_wp2_with fail
          all_goals go_ret
          all_goals exact ⟨by rw [E1.out, ← HBd.out, ← HSd.out, ← HT2.out, ← Hys.out]; exact (congrArg (fun t => Ending.returned (.string t)) (nm_field _ _ _)).trans (by rw [← Hst.out]; rfl), below_then HB8.out HB8.out.size HB1⟩
        · have d3 : decide (a ≥ 0) = false := decide_eq_false o0
          have d4 : decide (0 ≤ a) = false := decide_eq_false o0
          subst hs0
          have HY : Aside0 (RdV w (.slice none 0 0) ys) := ⟨by rw [hy0]; exact RdV.nil _⟩
          clear hy0
          go_upto_region 17 with (fail)
          have hal := below_alloc (Below.refl w4.heap.size w4) (.cells #[.int .i64 0, .slice none 0 0] 36)
          have HZ0 := Aside0.mk (heap_alloc_new w4 (.cells #[.int .i64 0, .slice none 0 0] 36))
          have HB5 := Aside0.mk (below_then HB4.out HB4.out.size hal)
          have HG5 := Aside0.mk (blk_below' HG4.out hal)
          have hge := HB4.out.size
          clear hal g0 g1 g3
          generalize w4.alloc (.cells #[.int .i64 0, .slice none 0 0] 36) = w8 at *
          generalize w4.heap.size = g8 at *
          have g1 := blk_cell HG5.out 1
          have HB8 := HB5
          have HZ := HZ0
          have HY8 := Aside0.mk (HY.out.below HB8.out)
          go_upto_region 19 with (fail)
          generalize w8 = w9 at *
          have y0 := blk_cell HZ.out 0
          have y1 := blk_cell HZ.out 1
          have HB1 := Below.refl w9.heap.size w9
          go_region_held3 (fun w' => w'.cell? ⟨g8, 0, none⟩ = some (.int .i64 0) ∧ w'.cell? ⟨g8, 1, none⟩ = some (.slice none 0 0) ∧ Below w9.heap.size w9 w') (first | (exact ⟨bel_cell HB1 y0, bel_cell HB1 y1, HB1⟩) | (refine ⟨bel_cell (wb := w9) ?_ y0, bel_cell (wb := w9) ?_ y1, ?_⟩ <;> simp [*]))
            (first
              | (go_at_call 50; (with_reducible refine (refDigits_any 0 _ HSw.out).mono ?_); rintro e w5 ⟨rfl, B5⟩; rw [HSd.out]; have HB2 := bel_trans (wb := w9) (by simp [*]) B5; clear HB1 B5; have HB1 := HB2; clear HB2)
              | (go_at_call 21; (with_reducible refine (refText_any (HY8.out.below (by simp [*])) HYl.out HYw.out).mono ?_); rintro e w6 ⟨rfl, B6⟩; rw [HT2.out]; have HB2 := bel_trans (wb := w9) (by simp [*]) B6; clear HB1 B6; have HB1 := HB2; clear HB2)
              | (fail))
          all_goals go_wp2_with fail
          all_goals go_ret
          all_goals exact ⟨by rw [E1.out, ← HBd.out, ← HSd.out, ← HT2.out, ← Hys.out]; exact (congrArg (fun t => Ending.returned (.string t)) (nm_field _ _ _)).trans (by rw [← Hst.out]; rfl), below_then HB8.out HB8.out.size HB1⟩
      · rw [if_neg (by omega), if_neg k0] at hpl
        simp at hpl
    · have d1 : decide (r2 ≥ 0) = false := decide_eq_false h0
      have d2 : decide (0 ≤ r2) = false := decide_eq_false h0
      have HU : Aside0 (RdV W (.slice none 0 0) xs) := ⟨by rw [hx0]; exact RdV.nil _⟩
      clear hx0
      go_upto_region 7 with (fail)
      try clear h0
      try clear h1
      try clear d1
      try clear d2
      try clear e1
      go_wp2_with fail
      refine (refDigits_any r3 W (HWf.out r3 (by simp))).mono ?_
      rintro e w4 ⟨rfl, h4⟩
      rw [HBd.out]
      have HU4 := Aside0.mk (HU.out.below h4)
      have HG4 := Aside0.mk (blk_below' HG0.out h4)
      have HB4 := Aside0.mk (below_then HBW.out HBW.out.size h4)
      clear g1 g2 h4
      have g0 := blk_cell HG4.out 0
      have g1 := blk_cell HG4.out 1
      have g3 := blk_cell HG4.out 3
      have hpl := Hpl.out
      unfold pl at hpl
      by_cases k4 : k = 4
      · subst k4
        simp only [if_pos, Prod.mk.injEq] at hpl
        obtain ⟨rfl, rfl, rfl, rfl, _⟩ := hpl
        have s1 : (9223372036854775807 < 7 + E.size) = False := eq_false (by have := HEs.out; omega)
        go_wp2_with fail
        refine (refDigits_any a w4 HW.out.1).mono ?_
        rintro e w5 ⟨rfl, h5⟩
        rw [HEd.out]
        go_wp2_with fail
        go_ret
        exact ⟨by rw [E1.out, ← HEd.out]; exact congrArg (fun t => Ending.returned (.string t)) (nm_static _), below_then HB4.out HB4.out.size h5⟩
      rw [if_neg k4] at hpl
      by_cases k1 : k = 1
      · subst k1
        simp only [true_or, if_pos, Prod.mk.injEq] at hpl
        obtain ⟨rfl, rfl, rfl, rfl, _⟩ := hpl
        have s1 : (9223372036854775807 < 4 + B.size) = False := eq_false (by have := HBs.out; omega)
        have s2 : (9223372036854775807 < 4 + B.size + 1) = False := eq_false (by have := HBs.out; omega)
        have s3 : (9223372036854775807 < 4 + B.size + 1 + T.size) = False := eq_false (by have := HBs.out; have := HTs.out; omega)
        have HB1 := Below.refl w4.heap.size w4
        clear k4
        go_wp2_with fail
        refine (refText_any HU4.out HXl.out HXw.out).mono ?_
        rintro e w5 ⟨rfl, B5⟩
        rw [HT.out]
        have HB1 := B5
        go_wp2_with fail
        go_ret
        exact ⟨by rw [E1.out, ← HBd.out, ← HT.out, ← Hxs.out]; exact congrArg (fun t => Ending.returned (.string t)) (nm_ret _ _), below_then HB4.out HB4.out.size HB1⟩
      by_cases k2 : k = 2
      · subst k2
        simp only [true_or, or_true, if_pos, Prod.mk.injEq] at hpl
        obtain ⟨rfl, rfl, rfl, rfl, _⟩ := hpl
        have s1 : (9223372036854775807 < 4 + B.size) = False := eq_false (by have := HBs.out; omega)
        have s2 : (9223372036854775807 < 4 + B.size + 1) = False := eq_false (by have := HBs.out; omega)
        have s3 : (9223372036854775807 < 4 + B.size + 1 + T.size) = False := eq_false (by have := HBs.out; have := HTs.out; omega)
        have HB1 := Below.refl w4.heap.size w4
        clear k4 k1
        go_wp2_with fail
        refine (refText_any HU4.out HXl.out HXw.out).mono ?_
        rintro e w5 ⟨rfl, B5⟩
        rw [HT.out]
        have HB1 := B5
        go_wp2_with fail
        go_ret
        exact ⟨by rw [E1.out, ← HBd.out, ← HT.out, ← Hxs.out]; exact congrArg (fun t => Ending.returned (.string t)) (nm_exc _ _), below_then HB4.out HB4.out.size HB1⟩
      by_cases k0 : k = 0
      · subst k0
        rw [if_neg (by decide), if_pos rfl] at hpl
        simp only [Prod.mk.injEq] at hpl
        obtain ⟨rfl, rfl, rfl, rfl, _⟩ := hpl
        have s1 : (9223372036854775807 < 4 + B.size) = False := eq_false (by have := HBs.out; omega)
        have s2 : (9223372036854775807 < 4 + B.size + 1) = False := eq_false (by have := HBs.out; omega)
        have s3 : (9223372036854775807 < 4 + B.size + 1 + T.size) = False := eq_false (by have := HBs.out; have := HTs.out; omega)
        have s4 : (9223372036854775807 < 4 + B.size + 1 + T.size + 1) = False := eq_false (by have := HBs.out; have := HTs.out; omega)
        have s5 : (9223372036854775807 < 4 + B.size + 1 + T.size + 1 + D.size) = False := eq_false (by have := HBs.out; have := HTs.out; have := HDs.out; omega)
        have HB1 := Below.refl w4.heap.size w4
        clear k4 k1 k2
        go_wp2_with fail
        go_region_held3 (fun w' => w'.cell? ⟨g7, 3, none⟩ = some (.int .i64 c) ∧ Below w4.heap.size w4 w') (first | (exact ⟨bel_cell HB1 g3, HB1⟩) | (refine ⟨bel_cell (wb := w4) ?_ g3, ?_⟩ <;> simp [*]))
          (first
            | (go_at_call 21; (with_reducible refine (refText_any (HU4.out.below (by simp [*])) HXl.out HXw.out).mono ?_); rintro e w5 ⟨rfl, B5⟩; rw [HT.out]; have HB2 := bel_trans (wb := w4) (by simp [*]) B5; clear HB1 B5; have HB1 := HB2; clear HB2)
            | (go_at_call 50; (with_reducible refine (refDigits_any c _ HW.out.2.2).mono ?_); rintro e w6 ⟨rfl, B6⟩; rw [HDd.out]; have HB2 := bel_trans (wb := w4) (by simp [*]) B6; clear HB1 B6; have HB1 := HB2; clear HB2)
            | (fail))
        all_goals go_wp2_with fail
        all_goals go_ret
        all_goals exact ⟨by rw [E1.out, ← HBd.out, ← HT.out, ← Hxs.out, ← HDd.out]; exact congrArg (fun t => Ending.returned (.string t)) (nm_var _ _ _), below_then HB4.out HB4.out.size HB1⟩
      by_cases k3 : k = 3
      · subst k3
        rw [if_pos (by decide)] at hpl
        simp only [Prod.mk.injEq] at hpl
        obtain ⟨rfl, rfl, rfl, rfl, _⟩ := hpl
        clear k4 k1 k2 k0
        obtain ⟨hyok, hsw⟩ := placeOf_ok ol a HO.out
        have hsite : siteOf ol a = (tupleOf ol a).headD 0 := rfl
        have hplace : placeOf ol a = (tupleOf ol a).tail := rfl
        obtain ⟨st, hst⟩ : ∃ st, siteOf ol a = st := ⟨_, rfl⟩
        obtain ⟨ys, hys⟩ : ∃ ys, placeOf ol a = ys := ⟨_, rfl⟩
        have Hst := Aside0.mk hst
        have Hys := Aside0.mk hys
        rw [hst] at hsw hsite
        rw [hys] at hyok hplace
        have HSw := Aside0.mk hsw
        have HYw := Aside0.mk hyok.2
        have HYl : Aside0 (ys.length ≤ 100) := ⟨Nat.le_trans hyok.1 (by decide)⟩
        obtain ⟨T2, hT2⟩ : ∃ T, textS ys = T := ⟨_, rfl⟩
        have HT2 := Aside0.mk hT2
        have hT2s : T2.size ≤ 1000 := by rw [← hT2]; exact text_size ys hyok
        obtain ⟨S, hS⟩ : ∃ S, itoaS st = S := ⟨_, rfl⟩
        have HSd := Aside0.mk hS
        have hSs : S.size ≤ 21 := by rw [← hS]; exact itoaS_le hsw
        have s1 : (9223372036854775807 < 6 + S.size) = False := eq_false (by omega)
        have s2 : (9223372036854775807 < 6 + S.size + 1) = False := eq_false (by omega)
        have s3 : (9223372036854775807 < 6 + S.size + 1 + T2.size) = False := eq_false (by omega)
        have s4 : (9223372036854775807 < 6 + S.size + 1 + T2.size + 1) = False := eq_false (by omega)
        have s5 : (9223372036854775807 < 6 + S.size + 1 + T2.size + 1 + B.size) = False := eq_false (by have := HBs.out; omega)
        have hob : (∃ oa on oc, (0 ≤ a) ∧ (a < (os.length : Int)) ∧ Aside0 (RdV w (.slice oa on oc) ys) ∧ ∃ ad : Addr, A2 = some ad ∧ w4.cell? (ad.add (a.toNat * 2)) = some (.int .i64 st) ∧ w4.cell? ⟨(ad.add (a.toNat * 2)).block, (ad.add (a.toNat * 2)).off + 1, none⟩ = some (.slice oa on oc)) ∨ (ys = [] ∧ st = 0 ∧ 0 ≤ a ∧ ¬ a < (os.length : Int)) ∨ (ys = [] ∧ st = 0 ∧ ¬ 0 ≤ a) := by
          obtain ⟨hlen, hat⟩ := HRO.out.out
          by_cases h0 : 0 ≤ a
          · by_cases h1 : a < (os.length : Int)
            · refine .inl ?_
              obtain ⟨ad, cc, rfl, hcl, hK, hcell⟩ := Kd.C_get HOs.out (0, none, 0, 0) a h0 h1
              have hlt : a.toNat < os.length := by omega
              have hK : cc = [.int .i64 (os.getD a.toNat (0, none, 0, 0)).1, .slice (os.getD a.toNat (0, none, 0, 0)).2.1 (os.getD a.toNat (0, none, 0, 0)).2.2.1 (os.getD a.toNat (0, none, 0, 0)).2.2.2] := hK
              obtain ⟨m, he, hrd⟩ := hat a.toNat (os.getD a.toNat (0, none, 0, 0)) (tupleOf ol a) (by rw [List.getD, List.getElem?_eq_getElem hlt]; rfl) (by
                unfold tupleOf
                rw [if_pos ⟨h0, by omega⟩, List.getD, List.getElem?_eq_getElem (by omega)]
                rfl)
              generalize os.getD a.toNat (0, none, 0, 0) = x at hK hrd he
              obtain ⟨xs', xa, xn, xc⟩ := x
              rw [he] at hsite hplace
              have hsite : st = xs' := hsite
              have hplace : ys = m := hplace
              subst hK hsite hplace
              have e0 : w.cell? (ad.add (a.toNat * 2 + 0)) = some (.int .i64 st) := hcell 0 _ rfl
              have e0 : w.cell? (ad.add (a.toNat * 2)) = some (.int .i64 st) := by simpa using e0
              have e1 : w.cell? (ad.add (a.toNat * 2 + (0 + 1))) = some (.slice xa xn xc) := hcell 1 _ rfl
              rw [add_more] at e1
              have hrd : RdV w (.slice xa xn xc) ys := hrd
              exact ⟨xa, xn, xc, h0, h1, ⟨hrd⟩, ad, rfl, cell_bel2 HB4.out e0, cell_bel2 HB4.out e1⟩
            · have ht : tupleOf ol a = [] := by
                unfold tupleOf
                rw [if_neg (by omega)]
              rw [ht] at hsite hplace
              exact .inr (.inl ⟨hplace, hsite, h0, h1⟩)
          · have ht : tupleOf ol a = [] := by
              unfold tupleOf
              rw [if_neg (by omega)]
            rw [ht] at hsite hplace
            exact .inr (.inr ⟨hplace, hsite, h0⟩)
        clear hyok hsw hsite hplace hst hys hT2 hS hT2s hSs
        rcases hob with ⟨oa, on, oc, o0, o1, HY, ad9, rfl, e3, e4⟩ | ⟨hy0, hs0, o0, o1⟩ | ⟨hy0, hs0, o0⟩
        · have d3 : decide (a ≥ 0) = true := decide_eq_true o0
          have d4 : decide (a < (os.length : Int)) = true := decide_eq_true o1
          replace o0 := eq_true o0
          replace o1 := eq_true o1
          go_upto_region 17 with (fail)
          have hal := below_alloc (Below.refl w4.heap.size w4) (.cells #[.int .i64 0, .slice none 0 0] 36)
          have HZ0 := Aside0.mk (heap_alloc_new w4 (.cells #[.int .i64 0, .slice none 0 0] 36))
          have HB5 := Aside0.mk (below_then HB4.out HB4.out.size hal)
          have HG5 := Aside0.mk (blk_below' HG4.out hal)
          have hge := HB4.out.size
          have e5 := cell_bel2 hal e3
          have e6 := cell_bel2 hal e4
          clear e3 e4
          clear hal g0 g1 g3
          generalize w4.alloc (.cells #[.int .i64 0, .slice none 0 0] 36) = w8 at *
          generalize w4.heap.size = g8 at *
          have g1 := blk_cell HG5.out 1
          have y0 := blk_cell HZ0.out 0
          have y1 := blk_cell HZ0.out 1
          have f0 := blk_frozen HZ0.out 0
          have f1 := blk_frozen HZ0.out 1
          have P0 := blk_put (blk_put HZ0.out 0 (.int .i64 st) rfl) 1 (.slice oa on oc) rfl
          have HB8 := Aside0.mk (below_setCell (below_setCell HB5.out (p := ⟨g8, 0, none⟩) hge (.int .i64 st)) (p := ⟨g8, 1, none⟩) hge (.slice oa on oc))
          have HZ := Aside0.mk P0
          have HY8 := Aside0.mk (HY.out.below HB8.out)
          clear P0
          go_upto_region 19 with (fail)
          clear y0 y1 f0 f1 g1 e5 e6
          generalize (w8.setCell ⟨g8, 0, none⟩ (.int .i64 st)).setCell ⟨g8, 1, none⟩ (.slice oa on oc) = w9 at *
          have y0 : w9.cell? ⟨g8, 0, none⟩ = some (.int .i64 st) := blk_cell HZ.out 0
          have y1 : w9.cell? ⟨g8, 1, none⟩ = some (.slice oa on oc) := blk_cell HZ.out 1
          have HB1 := Below.refl w9.heap.size w9
          go_region_held3 (fun w' => w'.cell? ⟨g8, 0, none⟩ = some (.int .i64 st) ∧ w'.cell? ⟨g8, 1, none⟩ = some (.slice oa on oc) ∧ Below w9.heap.size w9 w') (first | (exact ⟨bel_cell HB1 y0, bel_cell HB1 y1, HB1⟩) | (refine ⟨bel_cell (wb := w9) ?_ y0, bel_cell (wb := w9) ?_ y1, ?_⟩ <;> simp [*]))
            (first
              | (go_at_call 50; (with_reducible refine (refDigits_any st _ HSw.out).mono ?_); rintro e w5 ⟨rfl, B5⟩; rw [HSd.out]; have HB2 := bel_trans (wb := w9) (by simp [*]) B5; clear HB1 B5; have HB1 := HB2; clear HB2)
              | (go_at_call 21; (with_reducible refine (refText_any (HY8.out.below (by simp [*])) HYl.out HYw.out).mono ?_); rintro e w6 ⟨rfl, B6⟩; rw [HT2.out]; have HB2 := bel_trans (wb := w9) (by simp [*]) B6; clear HB1 B6; have HB1 := HB2; clear HB2)
              | (fail))
          all_goals go_wp2_with fail
          all_goals go_ret
          all_goals exact ⟨by rw [E1.out, ← HBd.out, ← HSd.out, ← HT2.out, ← Hys.out]; exact (congrArg (fun t => Ending.returned (.string t)) (nm_field _ _ _)).trans (by rw [← Hst.out]; rfl), below_then HB8.out HB8.out.size HB1⟩
        · have d4 : decide (a < (os.length : Int)) = false := decide_eq_false o1
          have d3 : decide (a ≥ 0) = true := decide_eq_true o0
          subst hs0
          have HY : Aside0 (RdV w (.slice none 0 0) ys) := ⟨by rw [hy0]; exact RdV.nil _⟩
          clear hy0
          replace o0 := eq_true o0
          go_upto_region 17 with (fail)
          have hal := below_alloc (Below.refl w4.heap.size w4) (.cells #[.int .i64 0, .slice none 0 0] 36)
          have HZ0 := Aside0.mk (heap_alloc_new w4 (.cells #[.int .i64 0, .slice none 0 0] 36))
          have HB5 := Aside0.mk (below_then HB4.out HB4.out.size hal)
          have HG5 := Aside0.mk (blk_below' HG4.out hal)
          have hge := HB4.out.size
          clear hal g0 g1 g3
          generalize w4.alloc (.cells #[.int .i64 0, .slice none 0 0] 36) = w8 at *
          generalize w4.heap.size = g8 at *
          have g1 := blk_cell HG5.out 1
          have HB8 := HB5
          have HZ := HZ0
          have HY8 := Aside0.mk (HY.out.below HB8.out)
          go_upto_region 19 with (fail)
          generalize w8 = w9 at *
          have y0 := blk_cell HZ.out 0
          have y1 := blk_cell HZ.out 1
          have HB1 := Below.refl w9.heap.size w9
          go_region_held3 (fun w' => w'.cell? ⟨g8, 0, none⟩ = some (.int .i64 0) ∧ w'.cell? ⟨g8, 1, none⟩ = some (.slice none 0 0) ∧ Below w9.heap.size w9 w') (first | (exact ⟨bel_cell HB1 y0, bel_cell HB1 y1, HB1⟩) | (refine ⟨bel_cell (wb := w9) ?_ y0, bel_cell (wb := w9) ?_ y1, ?_⟩ <;> simp [*]))
            (first
              | (go_at_call 50; (with_reducible refine (refDigits_any 0 _ HSw.out).mono ?_); rintro e w5 ⟨rfl, B5⟩; rw [HSd.out]; have HB2 := bel_trans (wb := w9) (by simp [*]) B5; clear HB1 B5; have HB1 := HB2; clear HB2)
              | (go_at_call 21; (with_reducible refine (refText_any (HY8.out.below (by simp [*])) HYl.out HYw.out).mono ?_); rintro e w6 ⟨rfl, B6⟩; rw [HT2.out]; have HB2 := bel_trans (wb := w9) (by simp [*]) B6; clear HB1 B6; have HB1 := HB2; clear HB2)
              | (fail))
          all_goals go_wp2_with fail
          all_goals go_ret
          all_goals exact ⟨by rw [E1.out, ← HBd.out, ← HSd.out, ← HT2.out, ← Hys.out]; exact (congrArg (fun t => Ending.returned (.string t)) (nm_field _ _ _)).trans (by rw [← Hst.out]; rfl), below_then HB8.out HB8.out.size HB1⟩
        · have d3 : decide (a ≥ 0) = false := decide_eq_false o0
          have d4 : decide (0 ≤ a) = false := decide_eq_false o0
          subst hs0
          have HY : Aside0 (RdV w (.slice none 0 0) ys) := ⟨by rw [hy0]; exact RdV.nil _⟩
          clear hy0
          go_upto_region 17 with (fail)
          have hal := below_alloc (Below.refl w4.heap.size w4) (.cells #[.int .i64 0, .slice none 0 0] 36)
          have HZ0 := Aside0.mk (heap_alloc_new w4 (.cells #[.int .i64 0, .slice none 0 0] 36))
          have HB5 := Aside0.mk (below_then HB4.out HB4.out.size hal)
          have HG5 := Aside0.mk (blk_below' HG4.out hal)
          have hge := HB4.out.size
          clear hal g0 g1 g3
          generalize w4.alloc (.cells #[.int .i64 0, .slice none 0 0] 36) = w8 at *
          generalize w4.heap.size = g8 at *
          have g1 := blk_cell HG5.out 1
          have HB8 := HB5
          have HZ := HZ0
          have HY8 := Aside0.mk (HY.out.below HB8.out)
          go_upto_region 19 with (fail)
          generalize w8 = w9 at *
          have y0 := blk_cell HZ.out 0
          have y1 := blk_cell HZ.out 1
          have HB1 := Below.refl w9.heap.size w9
          go_region_held3 (fun w' => w'.cell? ⟨g8, 0, none⟩ = some (.int .i64 0) ∧ w'.cell? ⟨g8, 1, none⟩ = some (.slice none 0 0) ∧ Below w9.heap.size w9 w') (first | (exact ⟨bel_cell HB1 y0, bel_cell HB1 y1, HB1⟩) | (refine ⟨bel_cell (wb := w9) ?_ y0, bel_cell (wb := w9) ?_ y1, ?_⟩ <;> simp [*]))
            (first
              | (go_at_call 50; (with_reducible refine (refDigits_any 0 _ HSw.out).mono ?_); rintro e w5 ⟨rfl, B5⟩; rw [HSd.out]; have HB2 := bel_trans (wb := w9) (by simp [*]) B5; clear HB1 B5; have HB1 := HB2; clear HB2)
              | (go_at_call 21; (with_reducible refine (refText_any (HY8.out.below (by simp [*])) HYl.out HYw.out).mono ?_); rintro e w6 ⟨rfl, B6⟩; rw [HT2.out]; have HB2 := bel_trans (wb := w9) (by simp [*]) B6; clear HB1 B6; have HB1 := HB2; clear HB2)
              | (fail))
          all_goals go_wp2_with fail
          all_goals go_ret
          all_goals exact ⟨by rw [E1.out, ← HBd.out, ← HSd.out, ← HT2.out, ← Hys.out]; exact (congrArg (fun t => Ending.returned (.string t)) (nm_field _ _ _)).trans (by rw [← Hst.out]; rfl), below_then HB8.out HB8.out.size HB1⟩
      · rw [if_neg (by omega), if_neg k0] at hpl
        simp at hpl
end Go.Proofs.YtkbbliicijnpjaaDoor.Tx
