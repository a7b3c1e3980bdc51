/- A table of bools: rows of a call's own; the document's alike. -/
import Derived.Test.YtkpadjhdneiniaaDoorKp
namespace Go.Proofs.YtkpadjhdneiniaaDoor.Sb
set_option linter.unusedVariables false
open Go.RowKit Go.Proofs.YtkpadjhdneiniaaDoorW.PrintWords Go.Proofs.YtkpadjhdneiniaaDoorW.PrintLast Go.Proofs.YtkpadjhdneiniaaDoorW.PrintMore Go.Maps
open Go.Proofs.YtkpadjhdneiniaaDoor.Base Go.Proofs.YtkpadjhdneiniaaDoor.Map Go.Proofs.YtkpadjhdneiniaaDoor.Sl Go.Proofs.YtkpadjhdneiniaaDoor.Ow Go.Proofs.YtkpadjhdneiniaaDoor.Se Go.Proofs.YtkpadjhdneiniaaDoor.Gr Go.Proofs.YtkpadjhdneiniaaDoor.Rf Go.Proofs.YtkpadjhdneiniaaDoor.Tx Go.Proofs.YtkpadjhdneiniaaDoor.St

/-- a table of n rows of n bools, that may be read -/
structure RdM (w : World) (v : Value) (n : Nat) (one : Tbl) : Prop where
  mk :: (out : ∃ g c, ∃ R : Nat → Nat, v = .slice (some ⟨g, 0, none⟩) n c ∧ n ≤ c ∧ ∀ i, i < n → w.cell? ⟨g, i, none⟩ = some (.slice (some ⟨R i, 0, none⟩) n n) ∧ ∀ k, k < n → w.cell? ⟨R i, k, none⟩ = some (.bool (one i k)))
theorem RdM.below {w w1 : World} {v : Value} {n : Nat} {one : Tbl} (h : RdM w v n one) (hb : Below w.heap.size w w1) : RdM w1 v n one := by
  obtain ⟨g, c, R, h1, h2, h3⟩ := h
  exact ⟨g, c, R, h1, h2, fun i hi => ⟨pw_cell_below hb (h3 i hi).1, fun k hk => pw_cell_below hb ((h3 i hi).2 k hk)⟩⟩
open Classical in
noncomputable instance (E : List GE) (one : Tbl) (a b : Nat) : Decidable (Alk E one a b) := Classical.propDecidable _
/-- does edge k meet edge i? -/
def Meets (E : List GE) (one : Tbl) (b i k : Nat) : Prop := (E.getD k (0, 0, 0)).1 = (b : Int) ∧ (E.getD k (0, 0, 0)).2.1 = (E.getD i (0, 0, 0)).2.1 ∧ one (E.getD i (0, 0, 0)).2.2.toNat (E.getD k (0, 0, 0)).2.2.toNat = true
theorem alike_done {E : List GE} {one : Tbl} {a b : Nat} (h : ∀ i, i < E.length → (E.getD i (0, 0, 0)).1 = (a : Int) → ∃ k, k < E.length ∧ Meets E one b i k) : Alk E one a b := by
  intro e he ha
  obtain ⟨i, hi, rfl⟩ := List.getElem_of_mem he
  have e1 : E.getD i (0, 0, 0) = E[i] := by rw [List.getD_eq_getElem?_getD, List.getElem?_eq_getElem hi]; rfl
  obtain ⟨k, hk, h1, h2, h3⟩ := h i hi (by rw [e1]; exact ha)
  have e2 : E.getD k (0, 0, 0) = E[k] := by rw [List.getD_eq_getElem?_getD, List.getElem?_eq_getElem hk]; rfl
  rw [e2] at h1 h2 h3
  rw [e1] at h2 h3
  exact ⟨_, List.getElem_mem hk, h1, h2, h3⟩
theorem alike_not {E : List GE} {one : Tbl} {a b i : Nat} (hi : i < E.length) (ha : (E.getD i (0, 0, 0)).1 = (a : Int)) (h : ¬ ∃ k, k < E.length ∧ Meets E one b i k) : ¬ Alk E one a b := by
  intro hA
  have e1 : E.getD i (0, 0, 0) = E[i] := by rw [List.getD_eq_getElem?_getD, List.getElem?_eq_getElem hi]; rfl
  obtain ⟨e', he', h1, h2, h3⟩ := hA E[i] (List.getElem_mem hi) (by rw [← e1]; exact ha)
  obtain ⟨k, hk, rfl⟩ := List.getElem_of_mem he'
  have e2 : E.getD k (0, 0, 0) = E[k] := by rw [List.getD_eq_getElem?_getD, List.getElem?_eq_getElem hk]; rfl
  exact h ⟨k, hk, by rw [e2]; exact h1, by rw [e1, e2]; exact h2, by rw [e1, e2]; exact h3⟩
set_option maxHeartbeats 16000000 in
set_option maxRecDepth 100000 in
theorem alike_any (A A2 : Option Addr) (nT c c2 n : Nat) (E : List GE) (v : Value) (one : Tbl) (a b : Nat) (w : World) (hE : RdE w A2 E) (hM : RdM w v n one) (hR : RightG n E) (hl : E.length ≤ 1000) :
    Calls Tryd.prog 32 #[.agg #[.slice A nT c, .slice A2 E.length c2], v, .int .i64 (a : Int), .int .i64 (b : Int)] w fun e w' => e = .returned (.bool (decide (Alk E one a b))) ∧ Below w.heap.size w w' := by
  have hal : Below w.heap.size w (w.alloc (.cells #[.slice A nT c, .slice A2 E.length c2] 25)) := below_alloc (Below.refl _ _) _
  have Hb : Aside0 ((w.alloc (.cells #[.slice A nT c, .slice A2 E.length c2] 25)).heap[w.heap.size]? = some (.cells #[.slice A nT c, .slice A2 E.length c2] 25 (0, 0))) := ⟨heap_alloc_new _ _⟩
  have HE := Aside0.mk (hE.below hal)
  have HM := Aside0.mk (hM.below hal)
  have HR := Aside0.mk hR
  have Hl := Aside0.mk hl
  have Hal := Aside0.mk hal
  obtain ⟨g1, c1, R, rfl, hc1, -⟩ := hM
  obtain ⟨B, hB⟩ : ∃ B, decide (Alk E one a b) = B := ⟨_, rfl⟩
  rw [hB]
  have HBv := Aside0.mk hB
  obtain ⟨nE, hnE⟩ : ∃ n, E.length = n := ⟨_, rfl⟩
  have Hn := Aside0.mk (And.intro hnE hc1)
  obtain ⟨W, hW⟩ : ∃ W, w.alloc (.cells #[.slice A nT c, .slice A2 E.length c2] 25) = W := ⟨_, rfl⟩
  rw [hW] at Hb HE HM Hal
  rw [hnE] at hW Hb ⊢
  clear hal hE hR hl hnE hc1 hB
  go_enter Tryd.func32, Tryd.ntmps32
  go_wp2_with fail
  obtain ⟨g, hg⟩ : ∃ g, w.heap.size = g := ⟨_, rfl⟩
  rw [hg] at Hb
  have Hg := Aside0.mk hg
  simp only [hg]
  clear hW hg
  go_loopw [9] (fun I wr => ∃ i : Nat, I = .int .i64 (i : Int) ∧ i ≤ nE ∧ Aside0 (∀ j, j < i → (E.getD j (0, 0, 0)).1 = (a : Int) → ∃ k, k < E.length ∧ Meets E one b j k) ∧ Aside0 (Below W.heap.size W wr)) (fun I _ => nE - (intOf I).toNat)
  case atStart => exact ⟨0, rfl, Nat.zero_le _, ⟨fun j h => absurd h (by omega)⟩, ⟨Below.refl _ _⟩⟩
  case round =>
    obtain ⟨i, rfl, hi, HO, HB⟩ := hrel
    have hb := Ow.blk_below Hb.out HB.out
    have g0 : wr.cell? ⟨g, 0, none⟩ = some (.slice A nT c) := blk_cellD hb 0 _ rfl
    have g1' : wr.cell? ⟨g, 1, none⟩ = some (.slice A2 nE c2) := blk_cellD hb 1 _ rfl
    clear hb
    by_cases hin : i < nE
    · have hnb : decide ((i : Int) < (nE : Int)) = true := decide_eq_true (by omega)
      have hnc : decide (i < nE) = true := decide_eq_true hin
      have hil : i < E.length := by rw [Hn.out.1]; exact hin
      obtain ⟨ad, rfl, e0, e1, e2⟩ := (HE.out.below HB.out).at_ i hil
      have hri := HR.out _ (Gr.getD_mem hil (d := (0, 0, 0)))
      obtain ⟨⟨ea, ef, ez⟩, hee⟩ : ∃ e, E.getD i (0, 0, 0) = e := ⟨_, rfl⟩
      rw [hee] at e0 e1 e2 hri
      simp only at hri
      obtain ⟨z, rfl⟩ := Int.eq_ofNat_of_zero_le hri.2.2.1
      have i0 : 0 ≤ (i : Int) := by omega
      have i1 : (i : Int) < (nE : Int) := by omega
      have i2 : (i : Int) ≤ 1000000 := by have := Hl.out; have := Hn.out.1; omega
      have Hin := Aside0.mk (And.intro hin (And.intro hil (And.intro hee hri.2.2.2)))
      clear hin hi hil hee hri
      replace i0 := eq_true i0
      replace i1 := eq_true i1
      by_cases hea : ea = (a : Int)
      · subst hea
        have q1 : ((a : Int) != (a : Int)) = false := by simp
        go_wp2_with fail
        clear e0 e1 e2 g0 g1' q1
        go_loopw [10, 11] (fun G K wx => ∃ (k : Nat) (fb : Bool), K = .int .i64 (k : Int) ∧ k ≤ nE ∧ G = .bool fb ∧ Aside0 (fb = true ↔ ∃ j, j < k ∧ Meets E one b i j) ∧ Aside0 (Below W.heap.size W wx)) (fun _ K _ => nE - (intOf K).toNat)
        case atStart => exact ⟨0, false, rfl, Nat.zero_le _, rfl, ⟨⟨fun h => (by cases h), fun ⟨j, h, _⟩ => absurd h (by omega)⟩⟩, HB⟩
        case round =>
          obtain ⟨k, fb, rfl, hk, rfl, HF, HBk⟩ := hrel
          have hb := Ow.blk_below Hb.out HBk.out
          have g1' : wr.cell? ⟨g, 1, none⟩ = some (.slice (some ad) nE c2) := blk_cellD hb 1 _ rfl
          clear hb
          by_cases hkn : k < nE
          · have hnb : decide ((k : Int) < (nE : Int)) = true := decide_eq_true (by omega)
            have hnc : decide (k < nE) = true := decide_eq_true hkn
            have hkl : k < E.length := by rw [Hn.out.1]; exact hkn
            obtain ⟨ad', had, e0, e1, e2⟩ := (HE.out.below HBk.out).at_ i Hin.out.2.1
            cases had
            obtain ⟨ad', had, f0, f1, f2⟩ := (HE.out.below HBk.out).at_ k hkl
            cases had
            rw [Hin.out.2.2.1] at e0 e1 e2
            have hri := HR.out _ (Gr.getD_mem hkl (d := (0, 0, 0)))
            obtain ⟨⟨ka, kf, kz⟩, hee⟩ : ∃ e, E.getD k (0, 0, 0) = e := ⟨_, rfl⟩
            rw [hee] at f0 f1 f2 hri
            simp only at hri
            obtain ⟨y, rfl⟩ := Int.eq_ofNat_of_zero_le hri.2.2.1
            have hzn : z < n := by have := Hin.out.2.2.2; omega
            have hyn : y < n := by have := hri.2.2.2; omega
            obtain ⟨gm, cm, Rm, hv, _, hcell⟩ := HM.out.below HBk.out
            cases hv
            obtain ⟨m0, mk0⟩ := hcell z hzn
            have m1 := mk0 y hyn
            have hme : Meets E one b i k ↔ ka = (b : Int) ∧ kf = ef ∧ one z y = true := by
              unfold Meets
              rw [hee, Hin.out.2.2.1]
              simp
            have k0 : 0 ≤ (k : Int) := by omega
            have k1 : (k : Int) < (nE : Int) := by omega
            have k2 : (k : Int) ≤ 1000000 := by have := Hl.out; have := Hn.out.1; omega
            have i0 : 0 ≤ (i : Int) := by omega
            have i1 : (i : Int) < (nE : Int) := by have := Hin.out.1; omega
            have z0 : 0 ≤ (z : Int) := by omega
            have z1 : (z : Int) < (n : Int) := by omega
            have y0 : 0 ≤ (y : Int) := by omega
            have y1 : (y : Int) < (n : Int) := by omega
            have Hk := Aside0.mk (And.intro hkn hme)
            obtain ⟨q, hq⟩ : ∃ q, one z y = q := ⟨_, rfl⟩
            rw [hq] at m1 Hk
            clear hkn hk hkl hee hri hzn hyn hme mk0 hcell hq
            replace k0 := eq_true k0
            replace k1 := eq_true k1
            replace i0 := eq_true i0
            replace i1 := eq_true i1
            replace z0 := eq_true z0
            replace z1 := eq_true z1
            replace y0 := eq_true y0
            replace y1 := eq_true y1
            have hstep : ∀ fb' : Bool, (fb' = true ↔ fb = true ∨ Meets E one b i k) → (fb' = true ↔ ∃ j, j < k + 1 ∧ Meets E one b i j) := fun fb' h => by
              rw [h, HF.out]
              constructor
              · rintro (⟨j, h1, h2⟩ | h2)
                · exact ⟨j, by omega, h2⟩
                · exact ⟨k, by omega, h2⟩
              · rintro ⟨j, h1, h2⟩
                by_cases e : j = k
                · subst e; exact .inr h2
                · exact .inl ⟨j, by omega, h2⟩
            have Hst := Aside0.mk hstep
            clear hstep
            by_cases hkb : ka = (b : Int)
            · subst hkb
              have d1 : ((b : Int) == (b : Int)) = true := by simp
              by_cases hkf : kf = ef
              · subst hkf
                have d2 : (kf == kf) = true := by simp
                cases q with
                | true =>
                  have HF2 := Aside0.mk (Hst.out true ⟨fun _ => .inr (Hk.out.2.2 ⟨rfl, rfl, rfl⟩), fun _ => rfl⟩)
                  go_wp2_with fail
                  go_quiet (fail)
                  go_wp2_with fail
                  go_roundw
                  case rel => exact ⟨k + 1, true, by go_num, Hk.out.1, rfl, ⟨⟨fun _ => HF2.out.1 trivial, fun _ => rfl⟩⟩, ⟨pw_below_drewN HBk.out _⟩⟩
                  case measure => have := Hk.out.1; simp [intOf]; omega
                | false =>
                  have HF2 := Aside0.mk (Hst.out fb ⟨fun h => .inl h, fun h => h.elim id (fun h => (by have := (Hk.out.2.1 h).2.2; cases this))⟩)
                  go_wp2_with fail
                  go_quiet (fail)
                  go_wp2_with fail
                  go_roundw
                  case rel => exact ⟨k + 1, fb, by go_num, Hk.out.1, rfl, HF2, ⟨pw_below_drewN HBk.out _⟩⟩
                  case measure => have := Hk.out.1; simp [intOf]; omega
              · have d2 : (kf == ef) = false := by simpa using hkf
                have HF2 := Aside0.mk (Hst.out fb ⟨fun h => .inl h, fun h => h.elim id (fun h => absurd (Hk.out.2.1 h).2.1 hkf)⟩)
                clear hkf
                go_wp2_with fail
                go_quiet (fail)
                go_wp2_with fail
                go_roundw
                case rel => exact ⟨k + 1, fb, by go_num, Hk.out.1, rfl, HF2, ⟨pw_below_drewN HBk.out _⟩⟩
                case measure => have := Hk.out.1; simp [intOf]; omega
            · have d1 : (ka == (b : Int)) = false := by simpa using hkb
              have HF2 := Aside0.mk (Hst.out fb ⟨fun h => .inl h, fun h => h.elim id (fun h => absurd (Hk.out.2.1 h).1 hkb)⟩)
              clear hkb
              go_wp2_with fail
              go_quiet (fail)
              go_wp2_with fail
              go_roundw
              case rel => exact ⟨k + 1, fb, by go_num, Hk.out.1, rfl, HF2, ⟨pw_below_drewN HBk.out _⟩⟩
              case measure => have := Hk.out.1; simp [intOf]; omega
          · have hnb : decide ((k : Int) < (nE : Int)) = false := decide_eq_false (by omega)
            have hnc : decide (k < nE) = false := decide_eq_false hkn
            obtain rfl : k = nE := by omega
            have i2 : (i : Int) ≤ 1000000 := by have := Hl.out; have := Hn.out.1; have := Hin.out.1; omega
            clear hkn hk
            cases fb with
            | true =>
              have HO2 := Aside0.mk (fun (j : Nat) (hj : j < i + 1) (ha : (E.getD j (0, 0, 0)).1 = (a : Int)) => (show ∃ k, k < E.length ∧ Meets E one b j k by
                by_cases e : j = i
                · subst e
                  obtain ⟨q, h1, h2⟩ := HF.out.1 rfl
                  exact ⟨q, by rw [Hn.out.1]; exact h1, h2⟩
                · exact HO.out j (by omega) ha))
              go_wp2_with fail
              go_roundw
              case rel => exact ⟨i + 1, by go_num, Hin.out.1, HO2, HBk⟩
              case measure => have := Hin.out.1; simp [intOf]; omega
            | false =>
              have hBf : B = false := by
                rw [← HBv.out]
                exact decide_eq_false (alike_not Hin.out.2.1 (by rw [Hin.out.2.2.1]) (fun ⟨q, h1, h2⟩ => (by have := HF.out.2 ⟨q, by rw [← Hn.out.1]; exact h1, h2⟩; cases this)))
              have HBf := Aside0.mk hBf
              clear hBf
              go_wp2_with fail
              go_ret
              rw [HBf.out]
              exact ⟨rfl, by rw [Hg.out]; have h := bel_trans Hal.out HBk.out; rw [Hg.out] at h; exact h⟩
      · have q1 : (ea != (a : Int)) = true := by simpa using hea
        have HO2 := Aside0.mk (fun (j : Nat) (hj : j < i + 1) (ha : (E.getD j (0, 0, 0)).1 = (a : Int)) => (show ∃ k, k < E.length ∧ Meets E one b j k by
          by_cases e : j = i
          · subst e; rw [Hin.out.2.2.1] at ha; exact absurd ha hea
          · exact HO.out j (by omega) ha))
        clear hea
        go_wp2_with fail
        go_roundw
        case rel => exact ⟨i + 1, by go_num, Hin.out.1, HO2, HB⟩
        case measure => have := Hin.out.1; simp [intOf]; omega
    · have hnb : decide ((i : Int) < (nE : Int)) = false := decide_eq_false (by omega)
      have hnc : decide (i < nE) = false := decide_eq_false hin
      obtain rfl : i = nE := by omega
      have hBt : B = true := by rw [← HBv.out]; exact decide_eq_true (alike_done fun j hj ha => HO.out j (by rw [← Hn.out.1]; exact hj) ha)
      have HBt := Aside0.mk hBt
      clear hin hi hBt
      go_wp2_with fail
      go_ret
      rw [HBt.out]
      exact ⟨rfl, by rw [Hg.out]; have h := bel_trans Hal.out HB.out; rw [Hg.out] at h; exact h⟩
end Go.Proofs.YtkpadjhdneiniaaDoor.Sb
