/- EqualClasses: its walk. -/
import Derived.Test.YtkpadjhdneiniaaGreatDoorNe
namespace Go.Proofs.YtkpadjhdneiniaaGreatDoor.Am
set_option linter.unusedVariables false
open Go.RowKit Go.Proofs.YtkpadjhdneiniaaGreatDoorW.PrintWords Go.Proofs.YtkpadjhdneiniaaGreatDoorW.PrintLast Go.Proofs.YtkpadjhdneiniaaGreatDoorW.PrintMore Go.Maps
open Go.Proofs.YtkpadjhdneiniaaGreatDoor.Base Go.Proofs.YtkpadjhdneiniaaGreatDoor.Map Go.Proofs.YtkpadjhdneiniaaGreatDoor.Sl Go.Proofs.YtkpadjhdneiniaaGreatDoor.Ow Go.Proofs.YtkpadjhdneiniaaGreatDoor.Se Go.Proofs.YtkpadjhdneiniaaGreatDoor.Gr Go.Proofs.YtkpadjhdneiniaaGreatDoor.Rf Go.Proofs.YtkpadjhdneiniaaGreatDoor.Tx Go.Proofs.YtkpadjhdneiniaaGreatDoor.Au



open Go.Proofs.YtkpadjhdneiniaaGreatDoor.Eb
/-! the classes of automata -/
def AllA (w : World) (G : Nat → Prop) (ps : List (Option Addr)) (T : List ByteArray) (E : List GE) : Prop := ∀ j, j < ps.length → ∃ pa b e, ps.getD j none = some ⟨pa, 0, none⟩ ∧ AuS b e w pa T E (j : Int) ∧ e ≤ w.heap.size ∧ ∀ q, G q → q < b ∨ e ≤ q
theorem AllA.below {w w1 : World} {G : Nat → Prop} {ps : List (Option Addr)} {T : List ByteArray} {E : List GE} (h : AllA w G ps T E) (hb : Below w.heap.size w w1) : AllA w1 G ps T E := fun j hj => by
  obtain ⟨pa, b, e, h1, h2, h3, h4⟩ := h j hj
  exact ⟨pa, b, e, h1, h2.below hb h3, Nat.le_trans h3 hb.size, h4⟩
theorem AllA.chg {w w1 : World} {G : Nat → Prop} {ps : List (Option Addr)} {T : List ByteArray} {E : List GE} (h : AllA w G ps T E) (hC : Chg G w w1) : AllA w1 (ext G w w1) ps T E := fun j hj => by
  obtain ⟨pa, b, e, h1, h2, h3, h4⟩ := h j hj
  exact ⟨pa, b, e, h1, h2.chg h4 hC h3, Nat.le_trans h3 hC.size, fun q hq => hq.elim (h4 q) (fun h => .inr (by omega))⟩
theorem AllA.snoc {w : World} {G : Nat → Prop} {ps : List (Option Addr)} {T : List ByteArray} {E : List GE} (h : AllA w G ps T E) {pa b e : Nat} (h2 : AuS b e w pa T E (ps.length : Int)) (h3 : e ≤ w.heap.size) (h4 : ∀ q, G q → q < b ∨ e ≤ q) : AllA w G (ps ++ [some ⟨pa, 0, none⟩]) T E := fun j hj => by
  rw [List.length_append, List.length_singleton] at hj
  rcases Nat.lt_or_eq_of_le (Nat.le_of_lt_succ hj) with h1 | rfl
  · rw [getD_old ps _ none h1]; exact h j h1
  · rw [getD_new ps _ none]; exact ⟨pa, b, e, rfl, h2, h3, h4⟩
theorem same_bools (T : List ByteArray) (E : List GE) : ∃ S : Nat → Nat → Bool, ∀ j i, S j i = true ↔ ∀ v, ¬ Df T E [(j : Int)] [(i : Int)] v :=
  ⟨fun j i => @decide (∀ v, ¬ Df T E [(j : Int)] [(i : Int)] v) (Classical.propDecidable _), fun j i => by simp⟩
/-- what is the same of the same -/
structure Eqv (S : Nat → Nat → Bool) : Prop where
  refl : ∀ i, S i i = true
  symm : ∀ i j, S i j = S j i
  trans : ∀ i j k, S i j = true → S j k = true → S i k = true
theorem same_eqv {T : List ByteArray} {E : List GE} {S : Nat → Nat → Bool} (h : ∀ j i, S j i = true ↔ ∀ v, ¬ Df T E [(j : Int)] [(i : Int)] v) : Eqv S := by
  have e : ∀ j i, S j i = true ↔ ∀ v, tyG T (ledS E [(j : Int)] v) = tyG T (ledS E [(i : Int)] v) := fun j i => by
    rw [h j i]; exact forall_congr' fun v => Classical.not_not
  refine ⟨fun i => (e i i).2 fun v => rfl, fun i j => ?_, fun i j k h1 h2 => (e i k).2 fun v => ((e i j).1 h1 v).trans ((e j k).1 h2 v)⟩
  rw [Bool.eq_iff_iff, e i j, e j i]
  exact ⟨fun h v => (h v).symm, fun h v => (h v).symm⟩
/-- each class is told by its first one -/
theorem cls_first {S : Nat → Nat → Bool} (hS : Eqv S) (i : Nat) : ∃ m, m ≤ i ∧ firstG (fun j => S j i) (i + 1) = (m : Int) ∧ S m i = true ∧ ∀ j, j < m → S j i = false := by
  rcases firstG_spec (fun j => S j i) (i + 1) with ⟨_, h⟩ | ⟨k, h1, h2, h3, h4⟩
  · have h1 : S i i = false := h i (by omega)
    rw [hS.refl i] at h1; cases h1
  · exact ⟨k, by omega, h2, h3, h4⟩
theorem cls_self {S : Nat → Nat → Bool} (hS : Eqv S) {i m : Nat} (hm : S m i = true) (hf : ∀ j, j < m → S j i = false) : firstG (fun j => S j m) (m + 1) = (m : Int) :=
  firstG_at (B := fun j => S j m) (fun j hj => by
    show S j m = false
    cases hb : S j m with
    | false => rfl
    | true => have h1 := hf j hj; rw [hS.trans j m i hb hm] at h1; cases h1) (hS.refl m) (by omega)
theorem cls_eq {S : Nat → Nat → Bool} (hS : Eqv S) (k i : Nat) (hk : k ≤ i) : firstG (fun j => S j k) (k + 1) = firstG (fun j => S j i) (i + 1) ↔ S k i = true := by
  obtain ⟨m, h1, h2, h3, h4⟩ := cls_first hS k
  obtain ⟨n, g1, g2, g3, g4⟩ := cls_first hS i
  rw [h2, g2]
  constructor
  · intro e
    obtain rfl : m = n := by omega
    exact hS.trans k m i (by rw [hS.symm]; exact h3) g3
  · intro e
    have e1 : S m i = true := hS.trans m k i h3 e
    have e2 : S n k = true := hS.trans n i k g3 (by rw [hS.symm]; exact e)
    rcases Nat.lt_trichotomy m n with hl | he | hl
    · have := g4 m hl; rw [e1] at this; cases this
    · omega
    · have := h4 n hl; rw [e2] at this; cases this
set_option maxHeartbeats 16000000 in
set_option maxRecDepth 100000 in
theorem classes_law (A : Option Addr) (c : Nat) (T : List ByteArray) (A2 : Option Addr) (c2 : Nat) (E : List GE) (w : World) (hTZ : TZ w) (hP : P10 w) (hT : RdT w A T) (hE : RdE w A2 E) (hokE : ∀ a f z, (a, f, z) ∈ E → ok64 f) :
    Calls Tryz.prog 10 #[.agg #[.slice A T.length c, .slice A2 E.length c2]] w fun e w' => e = .returned (.bool true) ∧ Below w.heap.size w w' := by
  obtain ⟨W, hW⟩ : ∃ W, w.alloc (.cells #[.slice A T.length c, .slice A2 E.length c2] 25) = W := ⟨_, rfl⟩
  have HBW := Aside0.mk (show Below w.heap.size w W by rw [← hW]; exact below_alloc (Below.refl _ _) _)
  have Hb := Aside0.mk (show W.heap[w.heap.size]? = some (.cells #[.slice A T.length c, .slice A2 E.length c2] 25 (0, 0)) by rw [← hW]; exact heap_alloc_new _ _)
  obtain ⟨g, hg⟩ : ∃ g, w.heap.size = g := ⟨_, rfl⟩
  rw [hg] at Hb
  have HAw := Aside0.mk (fun (W' : World) (hb : Below W.heap.size W W') => awake24_any W' (hTZ.below (bel_trans HBW.out hb)) (hP.below (bel_trans HBW.out hb)))
  have HLi := Aside0.mk (fun (W' : World) (hb : Below W.heap.size W W') => light_any A A2 T.length c c2 E W' (hE.below (bel_trans HBW.out hb)))
  have H := Aside0.mk (And.intro (hTZ.below HBW.out) (And.intro (hP.below HBW.out) (And.intro (hT.below HBW.out) (And.intro (hE.below HBW.out) hokE))))
  obtain ⟨nT, hnT⟩ : ∃ nT, T.length = nT := ⟨_, rfl⟩
  obtain ⟨nE, hnE⟩ : ∃ nE, E.length = nE := ⟨_, rfl⟩
  have Hn := Aside0.mk (And.intro hnT hnE)
  rw [hnT, hnE] at hW Hb HLi
  rw [hnT, hnE]
  clear hTZ hP hT hE hokE hnT hnE
  go_enter Tryz.func10, Tryz.ntmps10
  go_wp2_with fail
  try simp only [hg, hW]
  clear hW
  refine (HAw.out W (Below.refl _ _)).mono ?_
  rintro e w1 ⟨rfl, r1⟩
  have HB1 := Aside0.mk r1
  clear r1
  have g0 : w1.cell? ⟨g, 0, none⟩ = some (.slice A nT c) := blk_cellD (Ow.blk_below Hb.out HB1.out) 0 _ rfl
  have g1 : w1.cell? ⟨g, 1, none⟩ = some (.slice A2 nE c2) := blk_cellD (Ow.blk_below Hb.out HB1.out) 1 _ rfl
  go_wp2_with fail
  refine (HLi.out w1 HB1.out).mono ?_
  rintro e w2 ⟨rfl, r1⟩
  have HB2 := Aside0.mk (bel_trans HB1.out r1)
  clear r1 g0 g1
  by_cases hli : LightG nT E
  case neg =>
    have d := decide_eq_false hli
    rw [d]
    clear d hli
    go_wp2_with fail
    refine (HAw.out _ HB2.out).mono ?_
    rintro e wz ⟨rfl, rz⟩
    have HBz := Aside0.mk (bel_trans HBW.out (bel_trans HB2.out rz))
    clear rz
    go_wp2_with fail
    go_ret
    exact ⟨rfl, by have h := HBz.out; first | exact h | (rw [hg] at h; exact h)⟩
  have d := decide_eq_true hli
  rw [d]
  have HL := Aside0.mk hli
  have HLT := Aside0.mk (show LightG T.length E by rw [Hn.out.1]; exact hli)
  clear d hli
  obtain ⟨S, hS⟩ := same_bools T E
  have HS := Aside0.mk hS
  have HQ := Aside0.mk (same_eqv hS)
  clear hS
  have HMk := Aside0.mk (fun (W' : World) (hc : Below w2.heap.size w2 W') (o : Nat) (ho : o < nT) => made2_any A c T A2 c2 E (o : Int) W' (H.out.1.below (bel_trans HB2.out hc)) (H.out.2.1.below (bel_trans HB2.out hc)) (H.out.2.2.1.below (bel_trans HB2.out hc)) (H.out.2.2.2.1.below (bel_trans HB2.out hc)) H.out.2.2.2.2 HLT.out (by omega) (by have := Hn.out.1; omega))
  rw [Hn.out.1, Hn.out.2] at HMk
  have hn8 : (nT : Int) ≤ 8 := by have := HL.out.2.2; omega
  have HB2d := Aside0.mk (bel_trans HBW.out HB2.out)
  go_wp2_with fail
  go_loopw [3, 4] (fun V I wr => ∃ (k : Nat) (G : Nat → Prop) (ps : List (Option Addr)), I = .int .i64 (k : Int) ∧ k ≤ nT ∧ Aside0 (Kd.R kP 33 wr 0 G V ps ∧ ps.length = k) ∧ Aside0 (AllA wr G ps T E) ∧ Aside0 (∀ q, G q → w2.heap.size ≤ q ∧ q < wr.heap.size) ∧ Aside0 (Below w2.heap.size w2 wr)) (fun _ I _ => nT - (intOf I).toNat)
  case atStart => exact ⟨0, fun _ => False, [], rfl, Nat.zero_le _, ⟨Kd.R_nil _ _ _ _ _, rfl⟩, ⟨fun j hj => absurd hj (Nat.not_lt_zero _)⟩, ⟨fun q hq => hq.elim⟩, ⟨Below.refl _ _⟩⟩
  case round =>
    obtain ⟨k, G, ps, rfl, hk, HV, HA, HF, HB⟩ := hrel
    have k3 : (k : Int) ≤ 8 := by omega
    have g0 : wr.cell? ⟨g, 0, none⟩ = some (.slice A nT c) := blk_cellD (Ow.blk_below Hb.out (bel_trans HB2.out HB.out)) 0 _ rfl
    have g1 : wr.cell? ⟨g, 1, none⟩ = some (.slice A2 nE c2) := blk_cellD (Ow.blk_below Hb.out (bel_trans HB2.out HB.out)) 1 _ rfl
    by_cases hkn : k < nT
    · have hnb : decide ((k : Int) < (nT : Int)) = true := decide_eq_true (by omega)
      have hnc : decide (k < nT) = true := decide_eq_true hkn
      have HM := Aside0.mk (HMk.out wr HB.out k hkn)
      obtain ⟨AV, cV, rfl, -, -⟩ := Kd.R_reads HV.out.1
      have hlp := HV.out.2
      have hR0 := HV.out.1
      rw [hlp] at hR0 ⊢
      have Hlp := Aside0.mk hlp
      have HR0 := Aside0.mk hR0
      clear hlp hR0
      have Hk := Aside0.mk (And.intro hkn hk)
      clear hkn hk
      go_wp2_with fail
      refine HM.out.mono ?_
      rintro e w3 ⟨pa, rfl, r1, r2⟩
      have HB3 := Aside0.mk (bel_trans HB.out r2)
      have HA3 := Aside0.mk ((HA.out.below r2).snoc (show AuS wr.heap.size w3.heap.size w3 pa T E (ps.length : Int) by rw [Hlp.out]; exact r1) (Nat.le_refl _) (fun q hq => .inl (HF.out q hq).2))
      obtain ⟨Wa, hWa⟩ : ∃ Wa, w3.alloc (.cells #[.pointer (some ⟨pa, 0, none⟩)] 33) = Wa := ⟨_, rfl⟩
      have Ba : Below w3.heap.size w3 Wa := by rw [← hWa]; exact below_alloc (Below.refl _ _) _
      have HRa := Aside0.mk (Kd.R_below (Kd.R_below HR0.out r2) Ba)
      have HCa := Aside0.mk (show Wa.cell? ⟨w3.heap.size, 0, none⟩ = some (.pointer (some ⟨pa, 0, none⟩)) by rw [← hWa]; exact blk_cell (heap_alloc_new _ _) 0)
      have HAa := Aside0.mk (HA3.out.below Ba)
      have HBa := Aside0.mk (bel_trans HB3.out Ba)
      have HSz := Aside0.mk (show wr.heap.size ≤ Wa.heap.size by have h1 := r2.size; have h2 := Ba.size; omega)
      clear r1 r2 Ba HM g0 g1
      go_wp2_with (first
        | (at_builtin; refine appP (G := G) rfl (.tmp 31) (.tmp 33) rfl _ ps (some ⟨pa, 0, none⟩) _ (by rfl) (by rfl) HRa.out HCa.out (by have := Hlp.out; have := Hk.out.2; omega) ?_; intro v1 w1' ho1 hg1 hc1)
        | fail)
      have HV9 := Aside0.mk (show Kd.R kP 33 w1' 0 (ext G Wa w1') v1 (ps ++ [some ⟨pa, 0, none⟩]) ∧ (ps ++ [some ⟨pa, 0, none⟩] : List (Option Addr)).length = k + 1 from ⟨ho1, by have := Hlp.out; simp; omega⟩)
      have HA9 := Aside0.mk (HAa.out.chg hc1)
      have HF9 := Aside0.mk (fun q (hq : ext G Wa w1' q) => (show w2.heap.size ≤ q ∧ q < w1'.heap.size from by
        have z1 := HBa.out.size
        have z2 := hc1.size
        have z3 := HSz.out
        exact hq.elim (fun h => ⟨(HF.out q h).1, by have := (HF.out q h).2; omega⟩) (fun h => ⟨by omega, h.2⟩)))
      have HB9 := Aside0.mk (show Below w2.heap.size w2 w1' from ((Chg.of_below HBa.out (fun _ => False)).then_ hc1 (fun q hq => .inr (HF.out q hq).1)).below (Nat.le_refl _) (fun q hq => hq.elim))
      clear ho1 hg1 hc1 hWa
      go_wp2_with fail
      go_roundw
      case rel => exact ⟨k + 1, _, _, by go_num, Hk.out.1, HV9, HA9, HF9, HB9⟩
      case measure => have := Hk.out.1; simp [intOf]; omega
    · have hnb : decide ((k : Int) < (nT : Int)) = false := decide_eq_false (by omega)
      have hnc : decide (k < nT) = false := decide_eq_false hkn
      obtain rfl : k = nT := by omega
      obtain ⟨AV, cV, rfl, hcV, -⟩ := Kd.R_reads HV.out.1
      have hlp := HV.out.2
      have hRA := R_toA HV.out.1
      rw [hlp] at hRA hcV ⊢
      have Hlp := Aside0.mk hlp
      have HRA := Aside0.mk hRA
      have HSa := Aside0.mk (fun (W' : World) (hc : Below wr.heap.size wr W') (j i : Nat) (hj : j < k) (hi : i < k) => (show SameSaid W' (ps.getD j none) (ps.getD i none) (S j i) from by
        obtain ⟨pa, b, e, h1, h2, h3, -⟩ := HA.out j (by rw [hlp]; exact hj)
        obtain ⟨pb, b', e', h1', h2', h3', -⟩ := HA.out i (by rw [hlp]; exact hi)
        rw [h1, h1']
        exact same_aus (h2.below hc h3) (h2'.below hc h3') HLT.out H.out.2.2.2.2 (by omega) (by have := Hn.out.1; omega) (by omega) (by have := Hn.out.1; omega) (HS.out j i)))
      have HCl := Aside0.mk (classes_any AV k cV ps S wr hlp (by omega) hcV hRA (fun i j hi hj => HSa.out wr (Below.refl _ _) j i hj hi))
      clear hlp hRA hcV HV HA hk hkn HMk
      go_wp2_with fail
      refine HCl.out.mono ?_
      rintro e w4 ⟨uC, rfl, r1, r2⟩
      obtain ⟨AC, cC, rfl, hcC, hrC⟩ := r1
      have HB4 := Aside0.mk r2
      have HC4 := Aside0.mk (show RdV w4 (.slice AC (clsL S k).length cC) (clsL S k) from ⟨AC, cC, rfl, hcC, hrC⟩)
      rw [clsL_len] at HC4 ⊢
      clear r2 hcC hrC HCl g0 g1
      go_wp2_with fail
      go_loopw [7] (fun I wx => ∃ i : Nat, I = .int .i64 (i : Int) ∧ i ≤ k ∧ Aside0 (Below w4.heap.size w4 wx)) (fun I _ => k - (intOf I).toNat)
      case atStart => exact ⟨0, rfl, Nat.zero_le _, ⟨Below.refl _ _⟩⟩
      case round =>
        obtain ⟨i, rfl, hi, HC⟩ := hrel
        rename World => wx
        have i3 : (i : Int) ≤ 8 := by omega
        by_cases hin : i < k
        · have hnb' : decide ((i : Int) < (k : Int)) = true := decide_eq_true (by omega)
          have hnc' : decide (i < k) = true := decide_eq_true hin
          obtain ⟨m, m1, m2, m3, m4⟩ := cls_first HQ.out i
          have hcm := cls_self HQ.out m3 m4
          obtain ⟨A6, c6, he6, -, hr6⟩ := HC4.out.below HC.out
          injection he6 with hq1 hq2 hq3
          subst hq1; subst hq3
          obtain ⟨ad, rfl, e1r⟩ := hr6.at_ (i : Int) (by omega) (by rw [clsL_len]; omega)
          obtain ⟨ad', had, e2r⟩ := hr6.at_ (m : Int) (by omega) (by rw [clsL_len]; omega)
          cases had
          have e1 : wx.cell? (ad.add i) = some (.int .i64 (m : Int)) := by rw [← m2, ← clsL_get S (show i < k from hin)]; simpa [rd] using e1r
          have e2 : wx.cell? (ad.add m) = some (.int .i64 (m : Int)) := by
            have e2 : wx.cell? (ad.add m) = some (.int .i64 ((clsL S k).getD m 0)) := by simpa [rd] using e2r
            rw [clsL_get S (show m < k by omega), hcm] at e2; exact e2
          have i0 : (0 : Int) ≤ (i : Int) := by omega
          have i1 : (i : Int) < (k : Int) := by omega
          have j0 : (0 : Int) ≤ (m : Int) := by omega
          have j1 : (m : Int) < (k : Int) := by omega
          have j2 : ¬ (m : Int) < 0 := by omega
          have j3 : decide ((m : Int) < 0) = false := decide_eq_false j2
          have j4 : ¬ (i : Int) < (m : Int) := by omega
          have j5 : decide ((i : Int) < (m : Int)) = false := decide_eq_false j4
          have Hi := Aside0.mk (And.intro hin (And.intro m2 m1))
          clear hin hi m1 m2 m3 m4 hcm hr6 hq2 e1r e2r
          replace i0 := eq_true i0
          replace i1 := eq_true i1
          replace j0 := eq_true j0
          replace j1 := eq_true j1
          go_upto_region 17 with fail
          go_region
          go_wp2_with fail
          clear e1 e2 j0 j1 j2 j3 j4 j5 i0 i1 hnb' hnc'
          go_loopw [8] (fun I wy => ∃ j : Nat, I = .int .i64 (j : Int) ∧ j ≤ i + 1 ∧ Aside0 (Below w4.heap.size w4 wy)) (fun I _ => i + 1 - (intOf I).toNat)
          case atStart => exact ⟨0, rfl, Nat.zero_le _, ⟨below_drew HC.out⟩⟩
          case round =>
            obtain ⟨j, rfl, hj, HD⟩ := hrel
            rename World => wy
            have j3 : (j : Int) ≤ 9 := by omega
            by_cases hjn : j ≤ i
            · have hnb' : decide ((j : Int) ≤ (i : Int)) = true := decide_eq_true (by omega)
              have hnc' : decide (j ≤ i) = true := decide_eq_true hjn
              have HDr := Aside0.mk (show Below w2.heap.size w2 wy from bel_trans HB.out (bel_trans HB4.out HD.out))
              have HRa := Aside0.mk (rapart_any A c T A2 c2 E (j : Int) (i : Int) wy (H.out.2.2.1.below (bel_trans HB2.out HDr.out)) (H.out.2.2.2.1.below (bel_trans HB2.out HDr.out)) HLT.out (by omega) (by have := Hn.out.1; have := Hi.out.1; omega) (by omega) (by have := Hn.out.1; have := Hi.out.1; omega))
              rw [Hn.out.1, Hn.out.2] at HRa
              have g0 : wy.cell? ⟨g, 0, none⟩ = some (.slice A k c) := blk_cellD (Ow.blk_below Hb.out (bel_trans HB2.out HDr.out)) 0 _ rfl
              have g1 : wy.cell? ⟨g, 1, none⟩ = some (.slice A2 nE c2) := blk_cellD (Ow.blk_below Hb.out (bel_trans HB2.out HDr.out)) 1 _ rfl
              have Hj := Aside0.mk hjn
              clear hjn hj
              go_wp2_with fail
              refine HRa.out.mono ?_
              rintro e w5 ⟨r1, hcase⟩
              obtain ⟨b, hb⟩ : ∃ b, S j i = b := ⟨_, rfl⟩
              obtain ⟨u5', hcw⟩ : ∃ u : Value, e = .returned (.tuple #[u, .bool (!b)]) := by
                rcases hcase with ⟨u, wd, rfl, -, r5⟩ | ⟨rfl, r5⟩
                · refine ⟨u, ?_⟩
                  cases b with
                  | false => rfl
                  | true => exact absurd r5.1 ((HS.out j i).1 hb wd)
                · refine ⟨.slice none 0 0, ?_⟩
                  cases b with
                  | true => rfl
                  | false => have := (HS.out j i).2 r5; rw [hb] at this; cases this
              subst hcw
              have HB5 := Aside0.mk (bel_trans HD.out r1)
              have HBs := Aside0.mk (bel_trans HB4.out HB5.out)
              obtain ⟨m', m1', m2', m3', m4'⟩ := cls_first HQ.out j
              have heq := cls_eq HQ.out j i Hj.out
              rw [m2', Hi.out.2.1, hb] at heq
              obtain ⟨A6, c6, he6, -, hr6⟩ := HC4.out.below HB5.out
              injection he6 with hq1 hq2 hq3
              subst hq3
              obtain ⟨adx, hadx, e1r⟩ := hr6.at_ (i : Int) (by omega) (by rw [clsL_len]; have := Hi.out.1; omega)
              obtain ⟨ady, hady, e2r⟩ := hr6.at_ (j : Int) (by omega) (by rw [clsL_len]; have := Hi.out.1; have := Hj.out; omega)
              rw [← hq1] at hadx hady
              cases hadx
              cases hady
              have e1 : w5.cell? (ad.add i) = some (.int .i64 (m : Int)) := by rw [← Hi.out.2.1, ← clsL_get S (show i < k from Hi.out.1)]; simpa [rd] using e1r
              have e2 : w5.cell? (ad.add j) = some (.int .i64 (m' : Int)) := by rw [← m2', ← clsL_get S (show j < k by have := Hi.out.1; have := Hj.out; omega)]; simpa [rd] using e2r
              obtain ⟨adp, hadp, e3⟩ := (HRA.out.below HBs.out).at_ (j := i) (by have := Hlp.out; have := Hi.out.1; omega)
              subst hadp
              obtain ⟨adq, hadq, e4⟩ := (HRA.out.below HBs.out).at_ (j := j) (by have := Hlp.out; have := Hi.out.1; have := Hj.out; omega)
              cases hadq
              have HS1 := Aside0.mk (fun (W' : World) (hc : Below w5.heap.size w5 W') => HSa.out W' (bel_trans HBs.out hc) j i (by have := Hi.out.1; have := Hj.out; omega) Hi.out.1 W' (Below.refl _ _))
              have HS2 := Aside0.mk (fun (W' : World) (hc : Below w5.heap.size w5 W') => HSa.out W' (bel_trans HBs.out hc) i j Hi.out.1 (by have := Hi.out.1; have := Hj.out; omega) W' (Below.refl _ _))
              rw [hb] at HS1
              rw [HQ.out.symm i j, hb] at HS2
              obtain ⟨pi, hpi⟩ : ∃ p, ps.getD i none = p := ⟨_, rfl⟩
              obtain ⟨pj, hpj⟩ : ∃ p, ps.getD j none = p := ⟨_, rfl⟩
              rw [hpi] at e3 HS1 HS2
              rw [hpj] at e4 HS1 HS2
              have i0 : (0 : Int) ≤ (i : Int) := by omega
              have i1 : (i : Int) < (k : Int) := by have := Hi.out.1; omega
              have j0 : (0 : Int) ≤ (j : Int) := by omega
              have j1 : (j : Int) < (k : Int) := by have := Hi.out.1; have := Hj.out; omega
              replace i0 := eq_true i0
              replace i1 := eq_true i1
              replace j0 := eq_true j0
              replace j1 := eq_true j1
              have HBr := Below.refl w5.heap.size w5
              clear e1r e2r hcase r1 hr6 hq1 hq2 hpi hpj m1' m2' m3' m4' g0 g1 hnb' hnc' HRa
              have hmb : ((m' : Int) == (m : Int)) = b := by
                rw [Bool.eq_iff_iff, beq_iff_eq, heq]
              clear heq
              cases b with
              | true =>
                obtain rfl : m' = m := by have h := beq_iff_eq.1 hmb; omega
                go_upto_region 23 with fail
                go_region_held3 (fun W' => W'.cell? (ad.add i) = some (.int .i64 (m' : Int)) ∧ W'.cell? (ad.add j) = some (.int .i64 (m' : Int)) ∧ W'.cell? (adp.add i) = some (.pointer pi) ∧ W'.cell? (adp.add j) = some (.pointer pj) ∧ Below w5.heap.size w5 W') (first | (exact ⟨pw_cell_below HB9 e1, pw_cell_below HB9 e2, pw_cell_below HB9 e3, pw_cell_below HB9 e4, HB9⟩) | (refine ⟨pw_cell_below (w := w5) ?_ e1, pw_cell_below (w := w5) ?_ e2, pw_cell_below (w := w5) ?_ e3, pw_cell_below (w := w5) ?_ e4, ?_⟩ <;> simp [*]) | go_keep)
                  (first
                    | (go_at_call 41; (with_reducible refine (HS1.out _ (by simp [*])).mono ?_); rintro e w6 ⟨rfl, r3⟩; have HB9 := bel_trans (wb := w5) (by simp [*]) r3; clear r3)
                    | (go_at_call 41; (with_reducible refine (HS2.out _ (by simp [*])).mono ?_); rintro e w6 ⟨rfl, r3⟩; have HB9 := bel_trans (wb := w5) (by simp [*]) r3; clear r3)
                    | fail)
                rename_i hHeld
                have HD9 := Aside0.mk (bel_trans HB5.out HB9)
                clear hHeld HB9 HBr e1 e2 e3 e4
                go_wp2_with fail
                go_roundw
                case rel => exact ⟨j + 1, by go_num, Nat.succ_le_succ Hj.out, HD9⟩
                case measure => have := Hj.out; simp [intOf]; omega
              | false =>
                have q2 : ¬ (m' : Int) = (m : Int) := by intro h; rw [h] at hmb; simp at hmb
                go_upto_region 23 with fail
                go_region_held3 (fun W' => W'.cell? (ad.add i) = some (.int .i64 (m : Int)) ∧ W'.cell? (ad.add j) = some (.int .i64 (m' : Int)) ∧ W'.cell? (adp.add i) = some (.pointer pi) ∧ W'.cell? (adp.add j) = some (.pointer pj) ∧ Below w5.heap.size w5 W') (first | (exact ⟨pw_cell_below HB9 e1, pw_cell_below HB9 e2, pw_cell_below HB9 e3, pw_cell_below HB9 e4, HB9⟩) | (refine ⟨pw_cell_below (w := w5) ?_ e1, pw_cell_below (w := w5) ?_ e2, pw_cell_below (w := w5) ?_ e3, pw_cell_below (w := w5) ?_ e4, ?_⟩ <;> simp [*]) | go_keep)
                  (first
                    | (go_at_call 41; (with_reducible refine (HS1.out _ (by simp [*])).mono ?_); rintro e w6 ⟨rfl, r3⟩; have HB9 := bel_trans (wb := w5) (by simp [*]) r3; clear r3)
                    | (go_at_call 41; (with_reducible refine (HS2.out _ (by simp [*])).mono ?_); rintro e w6 ⟨rfl, r3⟩; have HB9 := bel_trans (wb := w5) (by simp [*]) r3; clear r3)
                    | fail)
                rename_i hHeld
                have HD9 := Aside0.mk (bel_trans HB5.out HB9)
                clear hHeld HB9 HBr e1 e2 e3 e4
                go_wp2_with fail
                go_roundw
                case rel => exact ⟨j + 1, by go_num, Nat.succ_le_succ Hj.out, HD9⟩
                case measure => have := Hj.out; simp [intOf]; omega
            · have hnb' : decide ((j : Int) ≤ (i : Int)) = false := decide_eq_false (by omega)
              have hnc' : decide (j ≤ i) = false := decide_eq_false hjn
              clear hjn hj
              go_wp2_with fail
              go_roundw
              case rel => exact ⟨i + 1, by go_num, Hi.out.1, HD⟩
              case measure => have := Hi.out.1; simp [intOf]; omega
        · have hnb' : decide ((i : Int) < (k : Int)) = false := decide_eq_false (by omega)
          have hnc' : decide (i < k) = false := decide_eq_false hin
          have HBz := Aside0.mk (bel_trans HBW.out (bel_trans HB2.out (bel_trans HB.out (bel_trans HB4.out HC.out))))
          clear hin hi
          go_wp2_with fail
          go_ret
          exact ⟨rfl, by have h := HBz.out; first | exact h | (rw [hg] at h; exact h)⟩

end Go.Proofs.YtkpadjhdneiniaaGreatDoor.Am
