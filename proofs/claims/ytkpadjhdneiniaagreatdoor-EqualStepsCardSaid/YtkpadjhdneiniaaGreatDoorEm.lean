/- EqualSteps: its walk. -/
import Derived.Test.YtkpadjhdneiniaaGreatDoorEk
namespace Go.Proofs.YtkpadjhdneiniaaGreatDoor.Am
set_option linter.unusedVariables false
open Go.RowKit Go.Proofs.YtkpadjhdneiniaaGreatDoorW.PrintWords Go.Proofs.YtkpadjhdneiniaaGreatDoorW.PrintLast Go.Proofs.YtkpadjhdneiniaaGreatDoorW.PrintMore Go.Maps
open Go.Proofs.YtkpadjhdneiniaaGreatDoor.Base Go.Proofs.YtkpadjhdneiniaaGreatDoor.Map Go.Proofs.YtkpadjhdneiniaaGreatDoor.Sl Go.Proofs.YtkpadjhdneiniaaGreatDoor.Ow Go.Proofs.YtkpadjhdneiniaaGreatDoor.Se Go.Proofs.YtkpadjhdneiniaaGreatDoor.Gr Go.Proofs.YtkpadjhdneiniaaGreatDoor.Rf Go.Proofs.YtkpadjhdneiniaaGreatDoor.Tx Go.Proofs.YtkpadjhdneiniaaGreatDoor.Au



open Go.Proofs.YtkpadjhdneiniaaGreatDoor.Eb
theorem ty_one {T : List ByteArray} {o x : Int} (h0 : 0 ≤ o ∧ o < T.length) (h1 : 0 ≤ x ∧ x < T.length) (hne : T.getD o.toNat ByteArray.empty ≠ T.getD x.toNat ByteArray.empty) (E : List GE) : Df T E [o] [x] [] := fun e => by
  have e1 : typL T [o] = [T.getD o.toNat ByteArray.empty] := by unfold typL; rw [List.filter_cons_of_pos (by simp; omega)]; simp [typeG, h0]
  have e2 : typL T [x] = [T.getD x.toNat ByteArray.empty] := by unfold typL; rw [List.filter_cons_of_pos (by simp; omega)]; simp [typeG, h1]
  have h2 : T.getD o.toNat ByteArray.empty ∈ tyG T (ledS E [o] []) := ((tyG_is T [o]).mem _).2 (by rw [e1]; simp)
  rw [e] at h2
  have h3 := ((tyG_is T [x]).mem _).1 h2
  rw [e2, List.mem_singleton] at h3
  exact hne h3
/-- what tells the same tells the same a step further -/
theorem same_step {T : List ByteArray} {E : List GE} {o x p q f : Int} (h : ∀ v, ¬ Df T E [o] [x] v) (hp : nextG E f [o] = [p]) (hq : nextG E f [x] = [q]) : ∀ v, ¬ Df T E [p] [q] v := fun v hd => h (f :: v) (by
  show tyG T (ledS E (nextG E f [o]) v) ≠ tyG T (ledS E (nextG E f [x]) v)
  rw [hp, hq]; exact hd)
theorem next_in {n : Nat} {E : List GE} (h : RightG n E) {f p : Int} {os : List Int} (hp : nextG E f os = [p]) : 0 ≤ p ∧ p < n := (sm_next h f os).2 p (by rw [hp]; simp)
set_option maxHeartbeats 16000000 in
set_option maxRecDepth 100000 in
theorem steps_law (A : Option Addr) (c : Nat) (T : List ByteArray) (A2 : Option Addr) (c2 : Nat) (E : List GE) (o x : Int) (w : World) (hTZ : TZ w) (hP : P10 w) (hT : RdT w A T) (hE : RdE w A2 E) (hokE : ∀ a f z, (a, f, z) ∈ E → ok64 f) (hox : ok64 o) (hxx : ok64 x) :
    Calls Tryz.prog 8 #[.agg #[.slice A T.length c, .slice A2 E.length c2], .int .i64 o, .int .i64 x] w fun e w' => e = .returned (.bool true) ∧ Below w.heap.size w w' := by
  obtain ⟨W, hW⟩ : ∃ W, w.alloc (.cells #[.slice A T.length c, .slice A2 E.length c2] 25) = W := ⟨_, rfl⟩
  have HBW := Aside0.mk (show Below w.heap.size w W by rw [← hW]; exact below_alloc (Below.refl _ _) _)
  have Hb := Aside0.mk (show W.heap[w.heap.size]? = some (.cells #[.slice A T.length c, .slice A2 E.length c2] 25 (0, 0)) by rw [← hW]; exact heap_alloc_new _ _)
  obtain ⟨g, hg⟩ : ∃ g, w.heap.size = g := ⟨_, rfl⟩
  rw [hg] at Hb
  have HAw := Aside0.mk (fun (W' : World) (hb : Below W.heap.size W W') => awake24_any W' (hTZ.below (bel_trans HBW.out hb)) (hP.below (bel_trans HBW.out hb)))
  have HLi := Aside0.mk (fun (W' : World) (hb : Below W.heap.size W W') => light_any A A2 T.length c c2 E W' (hE.below (bel_trans HBW.out hb)))
  have H := Aside0.mk (And.intro (hTZ.below HBW.out) (And.intro (hP.below HBW.out) (And.intro (hT.below HBW.out) (And.intro (hE.below HBW.out) (And.intro hokE (And.intro hox hxx))))))
  obtain ⟨nT, hnT⟩ : ∃ nT, T.length = nT := ⟨_, rfl⟩
  obtain ⟨nE, hnE⟩ : ∃ nE, E.length = nE := ⟨_, rfl⟩
  have Hn := Aside0.mk (And.intro hnT hnE)
  rw [hnT, hnE] at hW Hb HLi
  rw [hnT, hnE]
  clear hTZ hP hT hE hokE hox hxx hnT hnE
  go_enter Tryz.func8, Tryz.ntmps8
  go_wp2_with fail
  clear hW
  refine (HAw.out W (Below.refl _ _)).mono ?_
  rintro e w1 ⟨rfl, r1⟩
  have HB1 := Aside0.mk r1
  clear r1
  have g0 : w1.cell? ⟨g, 0, none⟩ = some (.slice A nT c) := blk_cellD (Ow.blk_below Hb.out HB1.out) 0 _ rfl
  have g1 : w1.cell? ⟨g, 1, none⟩ = some (.slice A2 nE c2) := blk_cellD (Ow.blk_below Hb.out HB1.out) 1 _ rfl
  go_wp2_with fail
  refine (HLi.out w1 HB1.out).mono ?_
  rintro e w2 ⟨rfl, r1⟩
  have HB2 := Aside0.mk (bel_trans HB1.out r1)
  clear r1 g0 g1
  by_cases hli : LightG nT E
  case neg =>
    have d := decide_eq_false hli
    rw [d]
    clear d hli
    go_wp2_with fail
    refine (HAw.out _ HB2.out).mono ?_
    rintro e wz ⟨rfl, rz⟩
    have HBz := Aside0.mk (bel_trans HBW.out (bel_trans HB2.out rz))
    clear rz
    go_wp2_with fail
    go_ret
    exact ⟨rfl, by have h := HBz.out; first | exact h | (rw [hg] at h; exact h)⟩
  have d := decide_eq_true hli
  rw [d]
  have HL := Aside0.mk hli
  clear d hli
  have g0 : w2.cell? ⟨g, 0, none⟩ = some (.slice A nT c) := blk_cellD (Ow.blk_below Hb.out HB2.out) 0 _ rfl
  have g1 : w2.cell? ⟨g, 1, none⟩ = some (.slice A2 nE c2) := blk_cellD (Ow.blk_below Hb.out HB2.out) 1 _ rfl
  by_cases h0 : 0 ≤ o
  case neg =>
    have e1 : decide (o < 0) = true := decide_eq_true (by omega)
    have e2 : o < 0 := by omega
    clear h0
    go_wp2_with fail
    refine (HAw.out _ HB2.out).mono ?_
    rintro e wz ⟨rfl, rz⟩
    have HBz := Aside0.mk (bel_trans HBW.out (bel_trans HB2.out rz))
    clear rz
    go_wp2_with fail
    go_ret
    exact ⟨rfl, by have h := HBz.out; first | exact h | (rw [hg] at h; exact h)⟩
  have e1 : decide (o < 0) = false := decide_eq_false (by omega)
  by_cases h1 : o < nT
  case neg =>
    have e3 : decide ((nT : Int) ≤ o) = true := decide_eq_true (by omega)
    have e4 : (nT : Int) ≤ o := by omega
    clear h1
    go_wp2_with fail
    refine (HAw.out _ HB2.out).mono ?_
    rintro e wz ⟨rfl, rz⟩
    have HBz := Aside0.mk (bel_trans HBW.out (bel_trans HB2.out rz))
    clear rz
    go_wp2_with fail
    go_ret
    exact ⟨rfl, by have h := HBz.out; first | exact h | (rw [hg] at h; exact h)⟩
  have e3 : decide ((nT : Int) ≤ o) = false := decide_eq_false (by omega)
  have e4 : ¬ (nT : Int) ≤ o := by omega
  by_cases h2 : 0 ≤ x
  case neg =>
    have e5 : decide (x < 0) = true := decide_eq_true (by omega)
    have e6 : x < 0 := by omega
    clear h2
    go_wp2_with fail
    refine (HAw.out _ HB2.out).mono ?_
    rintro e wz ⟨rfl, rz⟩
    have HBz := Aside0.mk (bel_trans HBW.out (bel_trans HB2.out rz))
    clear rz
    go_wp2_with fail
    go_ret
    exact ⟨rfl, by have h := HBz.out; first | exact h | (rw [hg] at h; exact h)⟩
  have e5 : decide (x < 0) = false := decide_eq_false (by omega)
  by_cases h3 : x < nT
  case neg =>
    have e7 : decide ((nT : Int) ≤ x) = true := decide_eq_true (by omega)
    have e8 : (nT : Int) ≤ x := by omega
    clear h3
    go_wp2_with fail
    refine (HAw.out _ HB2.out).mono ?_
    rintro e wz ⟨rfl, rz⟩
    have HBz := Aside0.mk (bel_trans HBW.out (bel_trans HB2.out rz))
    clear rz
    go_wp2_with fail
    go_ret
    exact ⟨rfl, by have h := HBz.out; first | exact h | (rw [hg] at h; exact h)⟩
  have e7 : decide ((nT : Int) ≤ x) = false := decide_eq_false (by omega)
  have e8 : ¬ (nT : Int) ≤ x := by omega
  have Ho := Aside0.mk (And.intro (And.intro h0 h1) (And.intro h2 h3))
  have HMo := Aside0.mk (fun (W' : World) (hc : Below w2.heap.size w2 W') => made_any A c T A2 c2 E o W' (H.out.1.below (bel_trans HB2.out hc)) (H.out.2.1.below (bel_trans HB2.out hc)) (H.out.2.2.1.below (bel_trans HB2.out hc)) (H.out.2.2.2.1.below (bel_trans HB2.out hc)) H.out.2.2.2.2.1 (by rw [Hn.out.1]; exact HL.out) Ho.out.1.1 (by rw [Hn.out.1]; exact Ho.out.1.2))
  have HMx := Aside0.mk (fun (W' : World) (hc : Below w2.heap.size w2 W') => made_any A c T A2 c2 E x W' (H.out.1.below (bel_trans HB2.out hc)) (H.out.2.1.below (bel_trans HB2.out hc)) (H.out.2.2.1.below (bel_trans HB2.out hc)) (H.out.2.2.2.1.below (bel_trans HB2.out hc)) H.out.2.2.2.2.1 (by rw [Hn.out.1]; exact HL.out) Ho.out.2.1 (by rw [Hn.out.1]; exact Ho.out.2.2))
  rw [Hn.out.1, Hn.out.2] at HMo HMx
  have HBr := Below.refl w2.heap.size w2
  clear h0 h2
  go_wp2_with fail
  go_region_held3 (fun W' => W'.cell? ⟨g, 0, none⟩ = some (.slice A nT c) ∧ W'.cell? ⟨g, 1, none⟩ = some (.slice A2 nE c2) ∧ Below w2.heap.size w2 W') (first | (refine ⟨pw_cell_below (w := w2) ?_ g0, pw_cell_below (w := w2) ?_ g1, ?_⟩ <;> simp [*]) | go_keep)
    (first
      | (go_at_call 38; (with_reducible refine (HMo.out _ (by simp [*])).mono ?_); rintro e w3 ⟨pa, pga, Fa, rfl, r1, r2, r3⟩; have HX0 := Aside0.mk (And.intro r1 r2); have HB9 := bel_trans (wb := w2) (by simp [*]) r3; clear r1 r2 r3)
      | (go_at_call 38; (with_reducible refine (HMx.out _ (by simp [*])).mono ?_); rintro e w3 ⟨pb, pgb, Fb, rfl, r1, r2, r3⟩; have HX0 := Aside0.mk (And.intro (HX0.out.1.below r3) (HX0.out.2.below r3)); have HX1 := Aside0.mk (And.intro r1 r2); have HB9 := bel_trans (wb := w2) (by simp [*]) r3; clear r1 r2 r3)
      | fail)
  rename_i hHeld
  have HB3 := Aside0.mk (bel_trans HB2.out HB9)
  have HAp := Aside0.mk (eapart_any pa pb pga pgb 100000 100000 T.length Fa Fb _ _ T E o x w3 HX0.out.1 HX1.out.1 HX0.out.2 HX1.out.2 rfl (by rw [Hn.out.1]; exact HL.out.2.2) HL.out.1.2 (by rw [Hn.out.1]; exact HL.out.2.1) H.out.2.2.2.2.1 Ho.out.1.1 (by rw [Hn.out.1]; exact Ho.out.1.2) Ho.out.2.1 (by rw [Hn.out.1]; exact Ho.out.2.2) rfl rfl)
  clear hHeld HB9 HX0 HX1 g0 g1 HBr HMo HMx
  go_wp2_with fail
  refine HAp.out.mono ?_
  rintro e w4 ⟨r1, hcase⟩
  have HB4 := Aside0.mk (bel_trans HB3.out r1)
  obtain ⟨ad, hA, t1⟩ := (H.out.2.2.1.below HB4.out).at_ o.toNat (by have := Ho.out.1; have := Hn.out.1; omega)
  obtain ⟨ad', hA', t2⟩ := (H.out.2.2.1.below HB4.out).at_ x.toNat (by have := Ho.out.2; have := Hn.out.1; omega)
  rw [hA] at hA'
  cases hA'
  obtain ⟨so, hso⟩ : ∃ s, T.getD o.toNat ByteArray.empty = s := ⟨_, rfl⟩
  obtain ⟨sx, hsx⟩ : ∃ s, T.getD x.toNat ByteArray.empty = s := ⟨_, rfl⟩
  rw [hso] at t1
  rw [hsx] at t2
  have g0 : w4.cell? ⟨g, 0, none⟩ = some (.slice (some ad) nT c) := by rw [← hA]; exact blk_cellD (Ow.blk_below Hb.out HB4.out) 0 _ rfl
  have g1 : w4.cell? ⟨g, 1, none⟩ = some (.slice A2 nE c2) := blk_cellD (Ow.blk_below Hb.out HB4.out) 1 _ rfl
  have i0 : 0 ≤ o := Ho.out.1.1
  have i1 : o < (nT : Int) := Ho.out.1.2
  have i2 : 0 ≤ x := Ho.out.2.1
  have i3' : x < (nT : Int) := Ho.out.2.2
  by_cases hs : so = sx
  case neg =>
    have hD : Df T E [o] [x] [] := ty_one ⟨Ho.out.1.1, by rw [Hn.out.1]; exact Ho.out.1.2⟩ ⟨Ho.out.2.1, by rw [Hn.out.1]; exact Ho.out.2.2⟩ (by rw [hso, hsx]; exact hs) E
    rcases hcase with ⟨u, wd, rfl, r2, -, -, r5⟩ | ⟨-, r2⟩
    case inr => exact absurd hD (r2 [])
    obtain rfl : wd = [] := least_nil r5 hD
    obtain ⟨xA, xc, rfl, -, -⟩ := r2
    have hne := Tx_ne hs
    have HB9 := Aside0.mk (bel_trans HBW.out HB4.out)
    clear r1 r5 hD hs hso hsx hA HAp
    replace i0 := eq_true i0
    replace i1 := eq_true i1
    replace i2 := eq_true i2
    replace i3' := eq_true i3'
    go_wp2_with fail
    go_region
    go_wp2_with fail
    go_ret
    exact ⟨rfl, by have h := below_drew HB9.out; first | exact h | (rw [hg] at h; exact h)⟩
  subst hs
  have heq := Tx_eq (s := so) rfl
  obtain ⟨wd, bA, hcw⟩ : ∃ (u : Value) (B : Bool), e = .returned (.tuple #[u, .bool B]) ∧ (B = false → ∀ v, ¬ Df T E [o] [x] v) := by
    rcases hcase with ⟨u, wd, rfl, r2, -, -, r5⟩ | ⟨rfl, r2⟩
    · exact ⟨_, true, rfl, fun h => by cases h⟩
    · exact ⟨_, false, rfl, fun _ => r2⟩
  obtain ⟨rfl, hB⟩ := hcw
  have HBf := Aside0.mk hB
  clear hcase r1 hso hsx hA HAp hB
  replace i0 := eq_true i0
  replace i1 := eq_true i1
  replace i2 := eq_true i2
  replace i3' := eq_true i3'
  have HFd := Aside0.mk (fun (W' : World) (hc : Below w4.heap.size w4 W') (u : Value) (hu : RdV W' u [o, x]) => rfields_any (some ad) A2 nT c c2 E u [o, x] W' ((H.out.2.2.2.1.below HB4.out).below hc) hu (by have h := HL.out.1.2; omega))
  rw [Hn.out.2] at HFd
  have HB4d := Aside0.mk (below_drew HB4.out)
  go_wp2_with fail
  go_region
  go_wp2_with fail
  refine (HFd.out _ (below_drew (below_alloc (Below.refl w4.heap.size w4) _)) _ ((rdV_lit (l := [o, x]) (heap_alloc_new _ _) rfl (by simp)).drew)).mono ?_
  rintro e w5 ⟨u5, rfl, r1, r2⟩
  have HB5 := Aside0.mk (bel_trans HB4.out (bel_trans (below_drew (below_alloc (Below.refl w4.heap.size w4) _)) r2))
  obtain ⟨A5, c5, rfl, hc5, hr5⟩ := r1
  have HF5 := Aside0.mk (show RdV w5 (.slice A5 (fieldsG E [o, x]).length c5) (fieldsG E [o, x]) from ⟨A5, c5, rfl, hc5, hr5⟩)
  obtain ⟨fl, hfl⟩ : ∃ fl, fieldsG E [o, x] = fl := ⟨_, rfl⟩
  rw [hfl] at HF5 ⊢
  obtain ⟨nf, hnf⟩ : ∃ nf, fl.length = nf := ⟨_, rfl⟩
  have Hnf := Aside0.mk (And.intro hnf (show nf ≤ 1000 by rw [← hnf, ← hfl]; exact Nat.le_trans (fields_len E _) (by have h := HL.out.1.2; have := Hn.out.2; omega)))
  rw [hnf] at HF5 ⊢
  clear r2 hc5 hr5 hfl hnf HFd t1 t2 g0 g1
  go_wp2_with fail
  go_loopw [12] (fun I wr => ∃ k : Nat, I = .int .i64 (k : Int) ∧ k ≤ nf ∧ Aside0 (Below w5.heap.size w5 wr)) (fun I _ => nf - (intOf I).toNat)
  case atStart => exact ⟨0, rfl, Nat.zero_le _, ⟨Below.refl _ _⟩⟩
  case round =>
    obtain ⟨k, rfl, hk, HB⟩ := hrel
    by_cases hkn : k < nf
    · have hnb : decide ((k : Int) < (nf : Int)) = true := decide_eq_true (by omega)
      have hnc : decide (k < nf) = true := decide_eq_true hkn
      have k0 : (0 : Int) ≤ (k : Int) := by omega
      have k1 : (k : Int) < (nf : Int) := by omega
      have k2 : (k : Int) ≤ 1000 := by have := Hnf.out.2; omega
      have HW := Aside0.mk (bel_trans HB5.out HB.out)
      obtain ⟨A6, c6, he6, -, hr6⟩ := HF5.out.below HB.out
      injection he6 with hq1 hq2 hq3
      subst hq1; subst hq3
      obtain ⟨ad5, rfl, e1⟩ := hr6.at_ (k : Int) (by omega) (by omega)
      obtain ⟨f, hf⟩ : ∃ f, fl.getD k 0 = f := ⟨_, rfl⟩
      have e1 : wr.cell? (ad5.add k) = some (.int .i64 f) := by rw [← hf]; simpa [rd] using e1
      have g0 : wr.cell? ⟨g, 0, none⟩ = some (.slice A nT c) := blk_cellD (Ow.blk_below Hb.out HW.out) 0 _ rfl
      have g1 : wr.cell? ⟨g, 1, none⟩ = some (.slice A2 nE c2) := blk_cellD (Ow.blk_below Hb.out HW.out) 1 _ rfl
      have HNo := Aside0.mk (fun (W' : World) (hc : Below wr.heap.size wr W') (y : Int) (u : Value) (hu : RdV W' u [y]) => rnext_any A A2 nT c c2 E f u [y] W' ((H.out.2.2.2.1.below HW.out).below hc) hu (by have h := HL.out.1.2; omega))
      rw [Hn.out.2] at HNo
      have HBr := Below.refl wr.heap.size wr
      have Hk := Aside0.mk hkn
      clear hkn hk hf hr6 hq2
      replace k0 := eq_true k0
      replace k1 := eq_true k1
      have hL0 : (wr.alloc (.cells #[.int .i64 o] 3)).cell? ⟨wr.heap.size, 0, none⟩ = some (.int .i64 o) := blk_cell (heap_alloc_new _ _) 0
      have hL1 : (wr.alloc (.cells #[.int .i64 x] 3)).cell? ⟨wr.heap.size, 0, none⟩ = some (.int .i64 x) := blk_cell (heap_alloc_new _ _) 0
      have hL2 : ((wr.alloc (.cells #[.int .i64 o] 3)).alloc (.cells #[.int .i64 x] 3)).cell? ⟨wr.heap.size + 1, 0, none⟩ = some (.int .i64 x) := by
        simp
      have hL3 : ((wr.alloc (.cells #[.int .i64 x] 3)).alloc (.cells #[.int .i64 o] 3)).cell? ⟨wr.heap.size + 1, 0, none⟩ = some (.int .i64 o) := by
        simp
      have hL4 : ((wr.alloc (.cells #[.int .i64 o] 3)).alloc (.cells #[.int .i64 x] 3)).cell? ⟨wr.heap.size, 0, none⟩ = some (.int .i64 o) := bel_cell (below_alloc (Below.refl _ _) _) hL0
      have hL5 : ((wr.alloc (.cells #[.int .i64 x] 3)).alloc (.cells #[.int .i64 o] 3)).cell? ⟨wr.heap.size, 0, none⟩ = some (.int .i64 x) := bel_cell (below_alloc (Below.refl _ _) _) hL1
      have hBa : Below wr.heap.size wr ((wr.alloc (.cells #[.int .i64 o] 3)).alloc (.cells #[.int .i64 x] 3)) := bel_trans (below_alloc (Below.refl _ _) _) (below_alloc (Below.refl _ _) _)
      have hBb : Below wr.heap.size wr ((wr.alloc (.cells #[.int .i64 x] 3)).alloc (.cells #[.int .i64 o] 3)) := bel_trans (below_alloc (Below.refl _ _) _) (below_alloc (Below.refl _ _) _)
      have hBc := below_drew hBa
      have hBd := below_drew hBb
      go_wp2_with fail
      go_region_held3 (fun W' => W'.cell? ⟨g, 0, none⟩ = some (.slice A nT c) ∧ W'.cell? ⟨g, 1, none⟩ = some (.slice A2 nE c2) ∧ W'.cell? (ad5.add k) = some (.int .i64 f) ∧ Below wr.heap.size wr W') (first | (exact ⟨bel_cell HB9 g0, bel_cell HB9 g1, pw_cell_below (w := wr) HB9 e1, HB9⟩) | (refine ⟨pw_cell_below (w := wr) ?_ g0, pw_cell_below (w := wr) ?_ g1, pw_cell_below (w := wr) ?_ e1, ?_⟩ <;> simp [*]) | go_keep)
        (first
          | (go_at_call 42; (with_reducible refine (HNo.out _ ?_ o _ (RdV.one ?_)).mono ?_); (· simp [*]); (· simp [*]); rintro e w7 ⟨u1, rfl, r1, r2⟩; (first | (have hL9 := bel_cell r2 hL2) | (have hL9 := bel_cell r2 hL5) | skip); have HX1 := Aside0.mk r1; have HB9 := bel_trans (wb := wr) (by simp [*]) r2; clear r1 r2)
          | (go_at_call 42; (with_reducible refine (HNo.out _ ?_ x _ (RdV.one ?_)).mono ?_); (· simp [*]); (· simp [*]); rintro e w7 ⟨u2, rfl, r1, r2⟩; (first | (have HX1 := Aside0.mk (HX1.out.below r2)) | (have HX1 := Aside0.mk ((HX1.out.alloc _).below r2))); have HX2 := Aside0.mk r1; have HB9 := bel_trans (wb := wr) (by simp [*]) r2; clear r1 r2)
          | fail)
      all_goals
        rename_i hHeld
        have HB7 := Aside0.mk (bel_trans HB.out HB9)
        obtain ⟨pl, hpl⟩ : ∃ l, nextG E f [o] = l := ⟨_, rfl⟩
        obtain ⟨ql, hql⟩ : ∃ l, nextG E f [x] = l := ⟨_, rfl⟩
        rw [hpl] at HX1
        rw [hql] at HX2
        obtain ⟨Ap, cp, rfl, hcp, hrp⟩ := HX1.out
        obtain ⟨Aq, cq, rfl, hcq, hrq⟩ := HX2.out
        have HX := Aside0.mk (And.intro hrp (And.intro hrq (And.intro hpl hql)))
        obtain ⟨np, hnp⟩ : ∃ k, pl.length = k := ⟨_, rfl⟩
        obtain ⟨nq, hnq⟩ : ∃ k, ql.length = k := ⟨_, rfl⟩
        have Hnn := Aside0.mk (And.intro hnp hnq)
        rw [hnp, hnq]
        clear hHeld HX1 HX2 hL0 hL1 hL2 hL3 hL4 hL5 hBa hBb hBc hBd HBr HB9 g0 g1 e1 HNo hcp hcq hrp hrq hpl hql hnp hnq
        by_cases hgo : bA = false ∧ np = 1 ∧ nq = 1
        case neg =>
          cases bA with
          | true =>
            go_wp2_with fail
            go_roundw
            case rel => exact ⟨k + 1, by go_num, Hk.out, HB7⟩
            case measure => have := Hk.out; simp [intOf]; omega
          | false =>
            by_cases h1 : np = 1
            · have h2 : nq ≠ 1 := fun e => hgo ⟨rfl, h1, e⟩
              have q1 : ((nq : Int) != 1) = true := by simp; omega
              have q2 : ((nq : Int) == 1) = false := by rw [beq_eq_false_iff_ne]; omega
              have q3 : ¬ (nq : Int) = 1 := by omega
              subst h1
              clear hgo h2
              go_wp2_with fail
              go_roundw
              case rel => exact ⟨k + 1, by go_num, Hk.out, HB7⟩
              case measure => have := Hk.out; simp [intOf]; omega
            · have q1 : ((np : Int) != 1) = true := by simp; omega
              have q2 : ((np : Int) == 1) = false := by rw [beq_eq_false_iff_ne]; omega
              have q3 : ¬ (np : Int) = 1 := by omega
              clear hgo h1
              go_wp2_with fail
              go_roundw
              case rel => exact ⟨k + 1, by go_num, Hk.out, HB7⟩
              case measure => have := Hk.out; simp [intOf]; omega
        obtain ⟨rfl, rfl, rfl⟩ := hgo
        obtain ⟨p0, hp0⟩ := List.length_eq_one_iff.1 Hnn.out.1
        obtain ⟨q0, hq0⟩ := List.length_eq_one_iff.1 Hnn.out.2
        subst hp0
        subst hq0
        have hsame := same_step (HBf.out rfl) HX.out.2.2.1 HX.out.2.2.2
        have hrp := next_in HL.out.2.1 HX.out.2.2.1
        have hrq := next_in HL.out.2.1 HX.out.2.2.2
        obtain ⟨adp, rfl, ep⟩ := HX.out.1.at_ 0 (by decide) (by simp)
        obtain ⟨adq, rfl, eq⟩ := HX.out.2.1.at_ 0 (by decide) (by simp)
        have z1 : adp.add 0 = adp := by unfold Addr.add; simp
        have z2 : adq.add 0 = adq := by unfold Addr.add; simp
        have ep : w7.cell? adp = some (.int .i64 p0) := by rw [← z1]; simpa [rd] using ep
        have eq : w7.cell? adq = some (.int .i64 q0) := by rw [← z2]; simpa [rd] using eq
        have HW7 := Aside0.mk (bel_trans HB5.out HB7.out)
        have g0 : w7.cell? ⟨g, 0, none⟩ = some (.slice A nT c) := blk_cellD (Ow.blk_below Hb.out HW7.out) 0 _ rfl
        have g1 : w7.cell? ⟨g, 1, none⟩ = some (.slice A2 nE c2) := blk_cellD (Ow.blk_below Hb.out HW7.out) 1 _ rfl
        have HMp := Aside0.mk (fun (W' : World) (hc : Below w7.heap.size w7 W') => made_any A c T A2 c2 E p0 W' (H.out.1.below (bel_trans HW7.out hc)) (H.out.2.1.below (bel_trans HW7.out hc)) (H.out.2.2.1.below (bel_trans HW7.out hc)) (H.out.2.2.2.1.below (bel_trans HW7.out hc)) H.out.2.2.2.2.1 (by rw [Hn.out.1]; exact HL.out) hrp.1 (by rw [Hn.out.1]; exact hrp.2))
        have HMq := Aside0.mk (fun (W' : World) (hc : Below w7.heap.size w7 W') => made_any A c T A2 c2 E q0 W' (H.out.1.below (bel_trans HW7.out hc)) (H.out.2.1.below (bel_trans HW7.out hc)) (H.out.2.2.1.below (bel_trans HW7.out hc)) (H.out.2.2.2.1.below (bel_trans HW7.out hc)) H.out.2.2.2.2.1 (by rw [Hn.out.1]; exact HL.out) hrq.1 (by rw [Hn.out.1]; exact hrq.2))
        rw [Hn.out.1, Hn.out.2] at HMp HMq
        have HSm := Aside0.mk (fun (W' : World) (y1 y2 z1 z2 : Nat) (F1 F2 : Nat → Prop) (a1 : AuX W' F1 y1 z1 (statesG E T.length p0) (stepG E (statesG E T.length p0)) 100000) (a2 : AuX W' F2 y2 z2 (statesG E T.length q0) (stepG E (statesG E T.length q0)) 100000) (a3 : GA W' z1 T E) (a4 : GA W' z2 T E) => (show Calls Tryz.prog 41 #[.pointer (some ⟨y1, 0, none⟩), .pointer (some ⟨y2, 0, none⟩)] W' (fun e w' => e = .returned (.bool true) ∧ Below W'.heap.size W' w') from
          (esame_any y1 y2 z1 z2 100000 100000 T.length F1 F2 _ _ T E p0 q0 W' a1 a2 a3 a4 rfl (by rw [Hn.out.1]; exact HL.out.2.2) HL.out.1.2 (by rw [Hn.out.1]; exact HL.out.2.1) H.out.2.2.2.2.1 hrp.1 (by rw [Hn.out.1]; exact hrp.2) hrq.1 (by rw [Hn.out.1]; exact hrq.2) rfl rfl).mono (fun e w' ⟨⟨B, he, hB⟩, hb⟩ => ⟨by rw [he, hB.2 hsame], hb⟩)))
        have HBr := Below.refl w7.heap.size w7
        clear hsame hrp hrq z1 z2
        go_wp2_with fail
        go_region_held3 (fun W' => W'.cell? ⟨g, 0, none⟩ = some (.slice A nT c) ∧ W'.cell? ⟨g, 1, none⟩ = some (.slice A2 nE c2) ∧ W'.cell? adp = some (.int .i64 p0) ∧ W'.cell? adq = some (.int .i64 q0) ∧ Below w7.heap.size w7 W') (first | (refine ⟨pw_cell_below (w := w7) ?_ g0, pw_cell_below (w := w7) ?_ g1, pw_cell_below (w := w7) ?_ ep, pw_cell_below (w := w7) ?_ eq, ?_⟩ <;> simp [*]) | go_keep)
          (first
            | (go_at_call 38; (with_reducible refine (HMp.out _ (by simp [*])).mono ?_); rintro e w8 ⟨y1, t1, F1, rfl, r1, r2, r3⟩; have HX0 := Aside0.mk (And.intro r1 r2); have HB9 := bel_trans (wb := w7) (by simp [*]) r3; clear r1 r2 r3)
            | (go_at_call 38; (with_reducible refine (HMq.out _ (by simp [*])).mono ?_); rintro e w8 ⟨y2, t2, F2, rfl, r1, r2, r3⟩; have HX0 := Aside0.mk (And.intro (HX0.out.1.below r3) (HX0.out.2.below r3)); have HX1 := Aside0.mk (And.intro r1 r2); have HB9 := bel_trans (wb := w7) (by simp [*]) r3; clear r1 r2 r3)
            | (go_at_call 41; (with_reducible refine (HSm.out _ _ _ _ _ _ _ HX0.out.1 HX1.out.1 HX0.out.2 HX1.out.2).mono ?_); rintro e w8 ⟨rfl, r3⟩; have HB9 := bel_trans (wb := w7) (by simp [*]) r3; clear r3)
            | fail)
        rename_i hHeld2
        have HB8 := Aside0.mk (bel_trans HB7.out HB9)
        clear hHeld2 HB9 HBr HX0 HX1 HMp HMq HSm g0 g1 ep eq
        go_wp2_with fail
        go_roundw
        case rel => exact ⟨k + 1, by go_num, Hk.out, HB8⟩
        case measure => have := Hk.out; simp [intOf]; omega
    · have hnb : decide ((k : Int) < (nf : Int)) = false := decide_eq_false (by omega)
      have hnc : decide (k < nf) = false := decide_eq_false hkn
      have HB9 := Aside0.mk (bel_trans HBW.out (bel_trans HB5.out HB.out))
      clear hkn hk
      go_wp2_with fail
      go_ret
      exact ⟨rfl, by have h := HB9.out; first | exact h | (rw [hg] at h; exact h)⟩

end Go.Proofs.YtkpadjhdneiniaaGreatDoor.Am
