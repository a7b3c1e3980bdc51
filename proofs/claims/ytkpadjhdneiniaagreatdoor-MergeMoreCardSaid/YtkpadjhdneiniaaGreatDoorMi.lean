/- MergeMore: its walk. -/
import Derived.Test.YtkpadjhdneiniaaGreatDoorMg
namespace Go.Proofs.YtkpadjhdneiniaaGreatDoor.Am
set_option linter.unusedVariables false
open Go.RowKit Go.Proofs.YtkpadjhdneiniaaGreatDoorW.PrintWords Go.Proofs.YtkpadjhdneiniaaGreatDoorW.PrintLast Go.Proofs.YtkpadjhdneiniaaGreatDoorW.PrintMore Go.Maps
open Go.Proofs.YtkpadjhdneiniaaGreatDoor.Base Go.Proofs.YtkpadjhdneiniaaGreatDoor.Map Go.Proofs.YtkpadjhdneiniaaGreatDoor.Sl Go.Proofs.YtkpadjhdneiniaaGreatDoor.Ow Go.Proofs.YtkpadjhdneiniaaGreatDoor.Se Go.Proofs.YtkpadjhdneiniaaGreatDoor.Gr Go.Proofs.YtkpadjhdneiniaaGreatDoor.Rf Go.Proofs.YtkpadjhdneiniaaGreatDoor.Tx Go.Proofs.YtkpadjhdneiniaaGreatDoor.Au



open Go.Proofs.YtkpadjhdneiniaaGreatDoor.Eb Go.Proofs.YtkpadjhdneiniaaGreatDoor.St
theorem may_mono {T : List ByteArray} {E : List GE} {most most' o : Int} (h : MayG T E most o) (hm : most ≤ most') : MayG T E most' o := ⟨h.1, by have := h.2.1; omega, h.2.2⟩
theorem map_eq {M : Nat → Bool} {S : Nat → Nat → Bool} (hS : Eqv S) {k i : Nat} (hk : M k = true) (hi : M i = true) (hs : S k i = true) : mapG M S k = mapG M S i := by
  obtain ⟨m, h1, h2, h3, h4, h5⟩ := map_first hS hk
  obtain ⟨n, g1, g2, g3, g4, g5⟩ := map_first hS hi
  rw [h2, g2]
  rcases Nat.lt_trichotomy m n with h | h | h
  · have := g5 m h h3
    rw [hS.trans m k i h4 hs] at this; cases this
  · rw [h]
  · have := h5 n h g3
    rw [hS.trans n i k g4 (by rw [hS.symm]; exact hs)] at this; cases this
theorem map_le {M : Nat → Bool} {S : Nat → Nat → Bool} (hS : Eqv S) (k : Nat) : mapG M S k ≤ (k : Int) := by
  cases hM : M k with
  | false => unfold mapG; rw [if_neg (by rw [hM]; simp)]; omega
  | true => obtain ⟨m, h1, h2, _⟩ := map_first hS hM; rw [h2]; omega
theorem map_finer {M1 M2 : Nat → Bool} {S : Nat → Nat → Bool} (hS : Eqv S) (h : ∀ i, M1 i = true → M2 i = true) (n : Nat) : Sb.FinerM (mapL M1 S n) (mapL M2 S n) := by
  refine ⟨by rw [mapL_len, mapL_len], fun i k hk hi he => ?_⟩
  rw [mapL_len] at hi
  rw [mapL_get _ _ hi, mapL_get _ _ (by omega)] at he ⊢
  have hlk := map_le (M := M1) hS k
  cases hM : M1 i with
  | false =>
    have e : mapG M1 S i = (i : Int) := by unfold mapG; rw [if_neg (by rw [hM]; simp)]
    omega
  | true =>
    obtain ⟨m, h1, h2, h3, h4, h5⟩ := map_first hS hM
    cases hK : M1 k with
    | false =>
      have e : mapG M1 S k = (k : Int) := by unfold mapG; rw [if_neg (by rw [hK]; simp)]
      have : m = k := by omega
      subst this
      rw [h3] at hK; cases hK
    | true =>
      obtain ⟨m', g1, g2, g3, g4, g5⟩ := map_first hS hK
      have : m = m' := by omega
      subst this
      exact map_eq hS (h i hM) (h k hK) (hS.trans i m k (by rw [hS.symm]; exact h4) g4)
set_option maxHeartbeats 16000000 in
set_option maxRecDepth 100000 in
theorem mmore_law (A : Option Addr) (c : Nat) (T : List ByteArray) (A2 : Option Addr) (c2 : Nat) (E : List GE) (a b : Int) (w : World) (hTZ : TZ w) (hP : P10 w) (hT : RdT w A T) (hE : RdE w A2 E) (hokE : ∀ a f z, (a, f, z) ∈ E → ok64 f) (hTs : ∀ s ∈ T, s.size ≤ maxLen) (ha : 0 ≤ a ∧ a < 256) (hb : 0 ≤ b ∧ b < 256) :
    Calls Tryz.prog 12 #[.agg #[.slice A T.length c, .slice A2 E.length c2], .int .u8 a, .int .u8 b] w fun e w' => e = .returned (.bool true) ∧ Below w.heap.size w w' := by
  have Hab := Aside0.mk (And.intro ha hb)
  clear ha hb
  obtain ⟨W, hW⟩ : ∃ W, w.alloc (.cells #[.slice A T.length c, .slice A2 E.length c2] 25) = W := ⟨_, rfl⟩
  have HBW := Aside0.mk (show Below w.heap.size w W by rw [← hW]; exact below_alloc (Below.refl _ _) _)
  have Hb := Aside0.mk (show W.heap[w.heap.size]? = some (.cells #[.slice A T.length c, .slice A2 E.length c2] 25 (0, 0)) by rw [← hW]; exact heap_alloc_new _ _)
  obtain ⟨g, hg⟩ : ∃ g, w.heap.size = g := ⟨_, rfl⟩
  rw [hg] at Hb
  have HAw := Aside0.mk (fun (W' : World) (hb : Below W.heap.size W W') => awake25_any W' (hTZ.below (bel_trans HBW.out hb)) (hP.below (bel_trans HBW.out hb)))
  have HLi := Aside0.mk (fun (W' : World) (hb : Below W.heap.size W W') => light_any A A2 T.length c c2 E W' (hE.below (bel_trans HBW.out hb)))
  have H := Aside0.mk (And.intro (hTZ.below HBW.out) (And.intro (hP.below HBW.out) (And.intro (hT.below HBW.out) (And.intro (hE.below HBW.out) (And.intro hokE hTs)))))
  obtain ⟨nT, hnT⟩ : ∃ nT, T.length = nT := ⟨_, rfl⟩
  obtain ⟨nE, hnE⟩ : ∃ nE, E.length = nE := ⟨_, rfl⟩
  have Hn := Aside0.mk (And.intro hnT hnE)
  rw [hnT, hnE] at hW Hb HLi
  rw [hnT, hnE]
  clear hTZ hP hT hE hokE hTs hnT hnE
  go_enter Tryz.func12, Tryz.ntmps12
  go_wp2_with fail
  try simp only [hg, hW]
  clear hW
  refine (HAw.out W (Below.refl _ _)).mono ?_
  rintro e w1 ⟨rfl, r1⟩
  have HB1 := Aside0.mk r1
  clear r1
  have g0 : w1.cell? ⟨g, 0, none⟩ = some (.slice A nT c) := blk_cellD (Ow.blk_below Hb.out HB1.out) 0 _ rfl
  have g1 : w1.cell? ⟨g, 1, none⟩ = some (.slice A2 nE c2) := blk_cellD (Ow.blk_below Hb.out HB1.out) 1 _ rfl
  go_wp2_with fail
  refine (HLi.out w1 HB1.out).mono ?_
  rintro e w2 ⟨rfl, r1⟩
  have HB2 := Aside0.mk (bel_trans HB1.out r1)
  clear r1 g0 g1
  by_cases hli : LightG nT E
  case neg =>
    have d := decide_eq_false hli
    rw [d]
    clear d hli
    go_wp2_with fail
    refine (HAw.out _ HB2.out).mono ?_
    rintro e wz ⟨rfl, rz⟩
    have HBz := Aside0.mk (bel_trans HBW.out (bel_trans HB2.out rz))
    clear rz
    go_wp2_with fail
    go_ret
    exact ⟨rfl, by have h := HBz.out; first | exact h | (rw [hg] at h; exact h)⟩
  have d := decide_eq_true hli
  rw [d]
  have HLn := Aside0.mk hli
  have HL := Aside0.mk (show LightG T.length E by rw [Hn.out.1]; exact hli)
  clear d hli
  have g0 : w2.cell? ⟨g, 0, none⟩ = some (.slice A nT c) := blk_cellD (Ow.blk_below Hb.out HB2.out) 0 _ rfl
  have g1 : w2.cell? ⟨g, 1, none⟩ = some (.slice A2 nE c2) := blk_cellD (Ow.blk_below Hb.out HB2.out) 1 _ rfl
  have HNw := Aside0.mk (new_any A c T A2 c2 E w2 (H.out.2.2.1.below HB2.out) (H.out.2.2.2.1.below HB2.out) (by have h := HL.out.2.2; omega) (by have h := HL.out.1.2; omega) H.out.2.2.2.2.1 HL.out.2.1)
  rw [Hn.out.1, Hn.out.2] at HNw
  go_wp2_with fail
  refine HNw.out.mono ?_
  rintro e w3 ⟨pg, lab, rfl, r1, r2⟩
  have HG3 := Aside0.mk (GA.mk ⟨lab, r1⟩)
  have HB3 := Aside0.mk (bel_trans HB2.out r2)
  clear r1 r2 HNw g0 g1
  have HMp := Aside0.mk (fun (W' : World) (hc : Below w3.heap.size w3 W') (most : Int) (hm : ok64 most) (M : Nat → Bool) (hM : ∀ i, M i = true ↔ MayG T E most (i : Int)) (S : Nat → Nat → Bool) (hS : ∀ j i, S j i = true ↔ ∀ v, ¬ Df T E [(j : Int)] [(i : Int)] v) => map_any pg T E most W' (HG3.out.below hc) (H.out.1.below (bel_trans HB3.out hc)) (H.out.2.1.below (bel_trans HB3.out hc)) HL.out H.out.2.2.2.2.1 hm H.out.2.2.2.2.2 M hM S hS)
  obtain ⟨S, hS⟩ := same_bools T E
  have HS := Aside0.mk hS
  have HQ := Aside0.mk (same_eqv hS)
  clear hS
  rw [Hn.out.1] at HMp
  obtain ⟨M1, hM1⟩ := may_bools T E a
  obtain ⟨M2, hM2⟩ := may_bools T E (a + b)
  have HM := Aside0.mk (And.intro hM1 hM2)
  clear hM1 hM2
  have HMp1 := Aside0.mk (HMp.out w3 (Below.refl _ _) a (ok64_of (by have := Hab.out; omega) (by have := Hab.out; omega)) M1 HM.out.1 S HS.out)
  have HMp2 := Aside0.mk (fun (W' : World) (hc : Below w3.heap.size w3 W') => HMp.out W' hc (a + b) (ok64_of (by have := Hab.out; omega) (by have := Hab.out; omega)) M2 HM.out.2 S HS.out)
  have HFi := Aside0.mk (fun (W' : World) (u v : Value) (hu : RdV W' u (mapL M1 S nT)) (hv : RdV W' v (mapL M2 S nT)) => Sb.rfiner_any u v _ _ W' hu hv (by rw [mapL_len]; have := HLn.out.2.2; omega))
  rw [decide_eq_true (map_finer HQ.out (fun i h => (HM.out.2 i).2 (may_mono ((HM.out.1 i).1 h) (by have := Hab.out; omega))) nT)] at HFi
  have a0 : 0 ≤ a := Hab.out.1.1
  have a1 : a < 256 := Hab.out.1.2
  have b0 : 0 ≤ b := Hab.out.2.1
  have b1 : b < 256 := Hab.out.2.2
  clear HMp
  go_wp2_with fail
  refine HMp1.out.mono ?_
  rintro e w4 ⟨u, rfl, r1, r2⟩
  have HU4 := Aside0.mk r1.toV
  have HB4 := Aside0.mk r2
  have HM2 := Aside0.mk (HMp2.out w4 r2)
  obtain ⟨A3, c3, hu3, -, -⟩ := r1.toV
  subst hu3
  rw [mapL_len] at HU4 ⊢
  clear r1 r2 HMp1 HMp2
  go_wp2_with fail
  refine HM2.out.mono ?_
  rintro e w5 ⟨u, rfl, r1, r2⟩
  have HB5 := Aside0.mk (bel_trans HB4.out r2)
  have HF5 := Aside0.mk (HFi.out w5 _ _ (HU4.out.below r2) r1.toV)
  have g0 : w5.cell? ⟨g, 0, none⟩ = some (.slice A nT c) := blk_cellD (Ow.blk_below Hb.out (bel_trans HB3.out HB5.out)) 0 _ rfl
  clear r1 r2 HM2 HFi
  go_wp2_with fail
  refine HF5.out.mono ?_
  rintro e w6 ⟨rfl, r1⟩
  have HB6 := Aside0.mk (bel_trans HBW.out (bel_trans HB3.out (bel_trans HB5.out r1)))
  clear r1
  go_wp2_with fail
  go_ret
  exact ⟨rfl, by have h := HB6.out; first | exact h | (rw [hg] at h; exact h)⟩

end Go.Proofs.YtkpadjhdneiniaaGreatDoor.Am
