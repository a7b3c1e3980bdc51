/- The document's May and Map. -/
import Derived.Test.YtkpadjhdneiniaaGreatDoorMb
import Derived.Test.YtkpadjhdneiniaaGreatDoorNg
namespace Go.Proofs.YtkpadjhdneiniaaGreatDoor.Am
set_option linter.unusedVariables false
open Go.RowKit Go.Proofs.YtkpadjhdneiniaaGreatDoorW.PrintWords Go.Proofs.YtkpadjhdneiniaaGreatDoorW.PrintLast Go.Proofs.YtkpadjhdneiniaaGreatDoorW.PrintMore Go.Maps
open Go.Proofs.YtkpadjhdneiniaaGreatDoor.Base Go.Proofs.YtkpadjhdneiniaaGreatDoor.Map Go.Proofs.YtkpadjhdneiniaaGreatDoor.Sl Go.Proofs.YtkpadjhdneiniaaGreatDoor.Ow Go.Proofs.YtkpadjhdneiniaaGreatDoor.Se Go.Proofs.YtkpadjhdneiniaaGreatDoor.Gr Go.Proofs.YtkpadjhdneiniaaGreatDoor.Rf Go.Proofs.YtkpadjhdneiniaaGreatDoor.Tx Go.Proofs.YtkpadjhdneiniaaGreatDoor.Au



open Go.Proofs.YtkpadjhdneiniaaGreatDoor.Eb
set_option maxHeartbeats 8000000 in
set_option maxRecDepth 100000 in
/-- the document's May -/
theorem rmay_any (A : Option Addr) (c : Nat) (T : List ByteArray) (A2 : Option Addr) (c2 : Nat) (E : List GE) (o most : Int) (w : World) (hT : RdT w A T) (hE : RdE w A2 E) (hL : LightG T.length E) (B : Bool) (hB : B = true ↔ MayG T E most o) :
    Calls Tryz.prog 50 #[.agg #[.slice A T.length c, .slice A2 E.length c2], .int .i64 o, .int .i64 most] w fun e w' => e = .returned (.bool B) ∧ Below w.heap.size w w' := by
  obtain ⟨W, hW⟩ : ∃ W, w.alloc (.cells #[.slice A T.length c, .slice A2 E.length c2] 25) = W := ⟨_, rfl⟩
  have HBW := Aside0.mk (show Below w.heap.size w W by rw [← hW]; exact below_alloc (Below.refl _ _) _)
  have Hb : W.heap[w.heap.size]? = some (.cells #[.slice A T.length c, .slice A2 E.length c2] 25 (0, 0)) := by rw [← hW]; exact heap_alloc_new _ _
  obtain ⟨g, hg⟩ : ∃ g, w.heap.size = g := ⟨_, rfl⟩
  rw [hg] at Hb
  have g0 : W.cell? ⟨g, 0, none⟩ = some (.slice A T.length c) := blk_cellD Hb 0 _ rfl
  have g1 : W.cell? ⟨g, 1, none⟩ = some (.slice A2 E.length c2) := blk_cellD Hb 1 _ rfl
  have HR := Aside0.mk (And.intro (hT.below HBW.out) (And.intro (hE.below HBW.out) (And.intro hL hB)))
  obtain ⟨nT, hnT⟩ : ∃ nT, T.length = nT := ⟨_, rfl⟩
  obtain ⟨nE, hnE⟩ : ∃ nE, E.length = nE := ⟨_, rfl⟩
  have Hn := Aside0.mk (And.intro hnT hnE)
  rw [hnT, hnE] at hW
  rw [hnT] at g0
  rw [hnE] at g1
  rw [hnT, hnE]
  clear hT hE hL hB hnT hnE
  by_cases h0 : 0 ≤ o
  case neg =>
    have e1 : decide (o < 0) = true := decide_eq_true (by omega)
    have e2 : o < 0 := by omega
    obtain rfl : B = false := by
      cases B with
      | false => rfl
      | true => exact absurd (HR.out.2.2.2.1 rfl).1.1 h0
    go_enter Tryz.func50, Tryz.ntmps50
    go_wp2_with fail
    try simp only [hg, hW]
    go_ret
    exact ⟨rfl, by have h := HBW.out; first | exact h | (rw [hg] at h; exact h)⟩
  have e1 : decide (o < 0) = false := decide_eq_false (by omega)
  have e2 : ¬ o < 0 := by omega
  by_cases h1 : o < nT
  case neg =>
    have e3 : decide ((nT : Int) ≤ o) = true := decide_eq_true (by omega)
    have e4 : (nT : Int) ≤ o := by omega
    obtain rfl : B = false := by
      cases B with
      | false => rfl
      | true => exact absurd (HR.out.2.2.2.1 rfl).1.2 (by rw [Hn.out.1]; exact h1)
    go_enter Tryz.func50, Tryz.ntmps50
    go_wp2_with fail
    try simp only [hg, hW]
    go_ret
    exact ⟨rfl, by have h := HBW.out; first | exact h | (rw [hg] at h; exact h)⟩
  have e3 : decide ((nT : Int) ≤ o) = false := decide_eq_false (by omega)
  have e4 : ¬ (nT : Int) ≤ o := by omega
  have Ho := Aside0.mk (And.intro h0 h1)
  have HSt := Aside0.mk (rstates_any A A2 T.length c c2 E o W HR.out.2.1 HR.out.2.2.1.1.2 HR.out.2.2.1.2.2 HR.out.2.2.1.2.1 h0 (by rw [Hn.out.1]; exact h1))
  have hI : StI T.length E o (statesG E T.length o) := states_inv HR.out.2.2.1.2.1 h0 (by rw [Hn.out.1]; exact h1)
  have hSl : (statesG E T.length o).length ≤ 256 := Nat.le_trans hI.len (Nat.pow_le_pow_right (by decide) HR.out.2.2.1.2.2)
  obtain ⟨B2, hB2⟩ := single_bool T (statesG E T.length o)
  have HSg := Aside0.mk (fun (W' : World) (v : Value) (hb : Below W.heap.size W W') (hv : RdL W' v (statesG E T.length o)) => rsingle_any A A2 c E.length c2 T v (statesG E T.length o) W' (HR.out.1.below hb) hv (by have := HR.out.2.2.1.2.2; omega) (fun s hs => by have h := (sm_ok HR.out.2.2.1.2.2 (hI.sm s hs).1).1; omega) (by omega) B2 hB2)
  have HB2 := Aside0.mk hB2
  rw [Hn.out.1, Hn.out.2] at HSt HSg
  rw [Hn.out.1] at HB2
  obtain ⟨L, hLs⟩ : ∃ L, statesG E nT o = L := ⟨_, rfl⟩
  have hMay : MayG T E most o ↔ (L.length : Int) ≤ most ∧ B2 = true := by
    unfold MayG
    rw [Hn.out.1, hLs, HB2.out, hLs]
    exact ⟨fun h => h.2, fun h => ⟨⟨h0, h1⟩, h⟩⟩
  have HM := Aside0.mk hMay
  rw [hLs] at HSt HSg
  clear h0 h1 hI hSl hB2 hMay hLs HB2
  go_enter Tryz.func50, Tryz.ntmps50
  go_wp2_with fail
  try simp only [hg, hW]
  refine HSt.out.mono ?_
  rintro e w1 ⟨v, rfl, r1, r2⟩
  have HS1 := Aside0.mk (HSg.out w1 v r2 r1)
  have HB1 := Aside0.mk (bel_trans HBW.out r2)
  have g0 : w1.cell? ⟨g, 0, none⟩ = some (.slice A nT c) := bel_cell r2 g0
  have g1 : w1.cell? ⟨g, 1, none⟩ = some (.slice A2 nE c2) := bel_cell r2 g1
  obtain ⟨AL, cL, rfl⟩ := r1.len
  obtain ⟨nl, hnl⟩ : ∃ k, L.length = k := ⟨_, rfl⟩
  rw [hnl] at HS1 HM ⊢
  clear r1 r2 hnl HSg HSt hW
  by_cases hle : (nl : Int) ≤ most
  · have q1 : decide ((nl : Int) ≤ most) = true := decide_eq_true hle
    obtain rfl : B = B2 := by
      rw [Bool.eq_iff_iff, HR.out.2.2.2, HM.out]
      exact ⟨fun h => h.2, fun h => ⟨hle, h⟩⟩
    clear hle
    go_wp2_with fail
    refine HS1.out.mono ?_
    rintro e w2 ⟨rfl, r2⟩
    have HB2' := Aside0.mk (bel_trans HB1.out r2)
    clear r2
    go_wp2_with fail
    go_ret
    exact ⟨rfl, by have h := HB2'.out; first | exact h | (rw [hg] at h; exact h)⟩
  · have q1 : decide ((nl : Int) ≤ most) = false := decide_eq_false hle
    obtain rfl : B = false := by
      cases B with
      | false => rfl
      | true => exact absurd (HM.out.1 (HR.out.2.2.2.1 rfl)).1 hle
    go_wp2_with fail
    go_ret
    exact ⟨rfl, by have h := HB1.out; first | exact h | (rw [hg] at h; exact h)⟩
/-! the merged map, plainly -/
def mapG (M : Nat → Bool) (S : Nat → Nat → Bool) (i : Nat) : Int := if M i = true then firstG (fun k => M k && S k i) (i + 1) else (i : Int)
def mapL (M : Nat → Bool) (S : Nat → Nat → Bool) (n : Nat) : List Int := (List.range n).map (mapG M S)
theorem mapL_snoc (M : Nat → Bool) (S : Nat → Nat → Bool) (n : Nat) : mapL M S (n + 1) = mapL M S n ++ [mapG M S n] := by
  unfold mapL; rw [List.range_succ, List.map_append]; rfl
theorem mapL_len (M : Nat → Bool) (S : Nat → Nat → Bool) (n : Nat) : (mapL M S n).length = n := by simp [mapL]
theorem mapL_get (M : Nat → Bool) (S : Nat → Nat → Bool) {n i : Nat} (h : i < n) : (mapL M S n).getD i 0 = mapG M S i := by
  unfold mapL
  rw [List.getD_eq_getElem?_getD, List.getElem?_map, List.getElem?_range h]; rfl
/-- looked for downwards -/
def dnG (C : Nat → Bool) (i : Nat) : Nat → Int
  | 0 => (i : Int)
  | d + 1 => if C (i - (d + 1)) = true then ((i - (d + 1) : Nat) : Int) else dnG C i d
theorem dnG_spec (C : Nat → Bool) (i : Nat) : ∀ d, d ≤ i → (∃ k, i - d ≤ k ∧ k < i ∧ dnG C i d = (k : Int) ∧ C k = true ∧ ∀ j, i - d ≤ j → j < k → C j = false) ∨ (dnG C i d = (i : Int) ∧ ∀ j, i - d ≤ j → j < i → C j = false)
  | 0, _ => .inr ⟨rfl, fun j h1 h2 => by omega⟩
  | d + 1, hd => by
    unfold dnG
    cases hc : C (i - (d + 1)) with
    | true => exact .inl ⟨i - (d + 1), Nat.le_refl _, by omega, by rw [if_pos rfl], hc, fun j h1 h2 => by omega⟩
    | false =>
      rw [if_neg (by simp)]
      have step : ∀ j, i - (d + 1) ≤ j → j = i - (d + 1) ∨ i - d ≤ j := fun j h => by omega
      rcases dnG_spec C i d (by omega) with ⟨k, h1, h2, h3, h4, h5⟩ | ⟨h1, h2⟩
      · exact .inl ⟨k, by omega, h2, h3, h4, fun j a b => (step j a).elim (fun e => by rw [e]; exact hc) (fun h => h5 j h b)⟩
      · exact .inr ⟨h1, fun j a b => (step j a).elim (fun e => by rw [e]; exact hc) (fun h => h2 j h b)⟩
theorem dn_map {M : Nat → Bool} {S : Nat → Nat → Bool} (hS : Eqv S) (i : Nat) : dnG (fun k => S k i && (M k && M i)) i i = mapG M S i := by
  unfold mapG
  rcases dnG_spec (fun k => S k i && (M k && M i)) i i (Nat.le_refl _) with ⟨k, h1, h2, h3, h4, h5⟩ | ⟨h1, h2⟩
  · simp only [Bool.and_eq_true] at h4
    rw [h3, if_pos h4.2.2]
    refine (firstG_at (fun j hj => ?_) (by simp [h4.1, h4.2.1]) (by omega)).symm
    have := h5 j (by omega) hj
    simp only [h4.2.2, Bool.and_true] at this
    rw [Bool.and_comm]; exact this
  · rw [h1]
    split
    · rename_i hm
      refine (firstG_at (fun j hj => ?_) (by simp [hm, hS.refl i]) (by omega)).symm
      have := h2 j (by omega) hj
      simp only [hm, Bool.and_true] at this
      rw [Bool.and_comm]; exact this
    · rfl
set_option maxHeartbeats 16000000 in
set_option maxRecDepth 100000 in
/-- the document's Map -/
theorem rmap_any (A : Option Addr) (c : Nat) (T : List ByteArray) (A2 : Option Addr) (c2 : Nat) (E : List GE) (most : Int) (w : World) (hT : RdT w A T) (hE : RdE w A2 E) (hL : LightG T.length E) (M : Nat → Bool) (hM : ∀ i, M i = true ↔ MayG T E most (i : Int)) (S : Nat → Nat → Bool) (hS : ∀ j i, S j i = true ↔ ∀ v, ¬ Df T E [(j : Int)] [(i : Int)] v) :
    Calls Tryz.prog 47 #[.agg #[.slice A T.length c, .slice A2 E.length c2], .int .i64 most] w fun e w' => ∃ u, e = .returned u ∧ RdV w' u (mapL M S T.length) ∧ Below w.heap.size w w' := by
  obtain ⟨W, hW⟩ : ∃ W, w.alloc (.cells #[.slice A T.length c, .slice A2 E.length c2] 25) = W := ⟨_, rfl⟩
  have HBW := Aside0.mk (show Below w.heap.size w W by rw [← hW]; exact below_alloc (Below.refl _ _) _)
  have Hb := Aside0.mk (show W.heap[w.heap.size]? = some (.cells #[.slice A T.length c, .slice A2 E.length c2] 25 (0, 0)) by rw [← hW]; exact heap_alloc_new _ _)
  obtain ⟨g, hg⟩ : ∃ g, w.heap.size = g := ⟨_, rfl⟩
  rw [hg] at Hb
  have HAp := Aside0.mk (fun (W' : World) (hb : Below W.heap.size W W') (j i : Nat) (hj : j < T.length) (hi : i < T.length) => rapart_any A c T A2 c2 E (j : Int) (i : Int) W' ((hT.below HBW.out).below hb) ((hE.below HBW.out).below hb) hL (by omega) (by omega) (by omega) (by omega))
  have HMy := Aside0.mk (fun (W' : World) (hb : Below W.heap.size W W') (i : Nat) => rmay_any A c T A2 c2 E (i : Int) most W' ((hT.below HBW.out).below hb) ((hE.below HBW.out).below hb) hL (M i) (hM i))
  have HS := Aside0.mk hS
  have HQ := Aside0.mk (same_eqv hS)
  have H8 := Aside0.mk hL.2.2
  obtain ⟨nT, hnT⟩ : ∃ nT, T.length = nT := ⟨_, rfl⟩
  obtain ⟨nE, hnE⟩ : ∃ nE, E.length = nE := ⟨_, rfl⟩
  rw [hnT, hnE] at hW Hb HAp HMy
  rw [hnT] at H8
  rw [hnT, hnE]
  clear hT hE hL hM hS hnT hnE
  go_enter Tryz.func47, Tryz.ntmps47
  go_wp2_with fail
  try simp only [hg, hW]
  clear hW
  go_loopw [5, 6] (fun V I wr => ∃ i : Nat, I = .int .i64 (i : Int) ∧ i ≤ nT ∧ Aside0 (OwI wr W.heap.size V (mapL M S i)) ∧ Aside0 (Below W.heap.size W wr)) (fun _ I _ => nT - (intOf I).toNat)
  case atStart => exact ⟨0, rfl, Nat.zero_le _, ⟨OwI.nil W _⟩, ⟨Below.refl _ _⟩⟩
  case round =>
    obtain ⟨i, rfl, hi, HO, HB⟩ := hrel
    have i3 : (i : Int) ≤ 8 := by have := H8.out; omega
    have g0 : wr.cell? ⟨g, 0, none⟩ = some (.slice A nT c) := blk_cellD (Ow.blk_below Hb.out HB.out) 0 _ rfl
    have g1 : wr.cell? ⟨g, 1, none⟩ = some (.slice A2 nE c2) := blk_cellD (Ow.blk_below Hb.out HB.out) 1 _ rfl
    by_cases hin : i < nT
    · have hnb : decide ((i : Int) < (nT : Int)) = true := decide_eq_true (by omega)
      have hnc : decide (i < nT) = true := decide_eq_true hin
      have Hi := Aside0.mk hin
      clear hin hi
      have HC := Aside0.mk (dn_map (M := M) HQ.out i)
      go_wp2_with fail
      go_loopw [7, 8] (fun Z K wx => ∃ d : Nat, K = .int .i64 ((i : Int) - 1 - (d : Int)) ∧ d ≤ i ∧ Z = .int .i64 (dnG (fun k => S k i && (M k && M i)) i d) ∧ Aside0 (Below wr.heap.size wr wx)) (fun _ K _ => (intOf K + 1).toNat)
      case atStart => exact ⟨0, by simp, Nat.zero_le _, rfl, ⟨Below.refl _ _⟩⟩
      case round =>
        obtain ⟨d, rfl, hd, rfl, HBx⟩ := hrel
        rename World => wx
        have HBw := Aside0.mk (bel_trans HB.out HBx.out)
        by_cases hdi : d < i
        · obtain ⟨j, hj⟩ : ∃ j : Nat, i - (d + 1) = j := ⟨_, rfl⟩
          have hj2 : (i : Int) - 1 - (d : Int) = (j : Int) := by omega
          rw [hj2]
          have q1 : (0 : Int) ≤ (j : Int) := by omega
          have q2 : decide ((0 : Int) ≤ (j : Int)) = true := decide_eq_true q1
          have q3 : (j : Int) ≤ 8 := by omega
          have hst : dnG (fun k => S k i && (M k && M i)) i (d + 1) = if (S j i && (M j && M i)) = true then (j : Int) else dnG (fun k => S k i && (M k && M i)) i d := by
            show (if (S (i - (d + 1)) i && (M (i - (d + 1)) && M i)) = true then ((i - (d + 1) : Nat) : Int) else _) = _
            rw [hj]
          have HA := Aside0.mk (HAp.out wx HBw.out j i (by have := Hi.out; omega) Hi.out)
          have g0 : wx.cell? ⟨g, 0, none⟩ = some (.slice A nT c) := blk_cellD (Ow.blk_below Hb.out HBw.out) 0 _ rfl
          have g1 : wx.cell? ⟨g, 1, none⟩ = some (.slice A2 nE c2) := blk_cellD (Ow.blk_below Hb.out HBw.out) 1 _ rfl
          have Hd := Aside0.mk (And.intro hdi (And.intro hj2 hst))
          clear hdi hd hj hj2 hst
          go_wp2_with fail
          refine HA.out.mono ?_
          rintro e w5 ⟨r1, hcase⟩
          obtain ⟨b, hb⟩ : ∃ b, S j i = b := ⟨_, rfl⟩
          obtain ⟨u5', hcw⟩ : ∃ u : Value, e = .returned (.tuple #[u, .bool (!b)]) := by
            rcases hcase with ⟨u, wd, rfl, -, r5⟩ | ⟨rfl, r5⟩
            · refine ⟨u, ?_⟩
              cases b with
              | false => rfl
              | true => exact absurd r5.1 ((HS.out j i).1 hb wd)
            · refine ⟨.slice none 0 0, ?_⟩
              cases b with
              | true => rfl
              | false => have := (HS.out j i).2 r5; rw [hb] at this; cases this
          subst hcw
          have HB5 := Aside0.mk (bel_trans HBw.out r1)
          have HBx5 := Aside0.mk (bel_trans HBx.out r1)
          have g0 : w5.cell? ⟨g, 0, none⟩ = some (.slice A nT c) := blk_cellD (Ow.blk_below Hb.out HB5.out) 0 _ rfl
          have g1 : w5.cell? ⟨g, 1, none⟩ = some (.slice A2 nE c2) := blk_cellD (Ow.blk_below Hb.out HB5.out) 1 _ rfl
          have hst := Hd.out.2.2
          rw [hb] at hst
          clear hcase r1 HA hb
          cases b with
          | false =>
            have hst : dnG (fun k => S k i && (M k && M i)) i (d + 1) = dnG (fun k => S k i && (M k && M i)) i d := by simpa using hst
            have Hst := Aside0.mk hst
            clear hst
            go_wp2_with fail
            go_roundw
            case rel => exact ⟨d + 1, by have := Hd.out.2.1; go_num, Hd.out.1, by rw [Hst.out], HBx5⟩
            case measure => have := Hd.out.2.1; have := Hd.out.1; simp [intOf] <;> omega
          | true =>
            have HM1 := Aside0.mk (HMy.out w5 HB5.out j)
            have HM2 := Aside0.mk (fun (W' : World) (hc : Below w5.heap.size w5 W') => HMy.out W' (bel_trans HB5.out hc) i)
            obtain ⟨b1, hb1⟩ : ∃ b, M j = b := ⟨_, rfl⟩
            obtain ⟨b2, hb2⟩ : ∃ b, M i = b := ⟨_, rfl⟩
            rw [hb1] at HM1 hst
            rw [hb2] at HM2
            have hst : dnG (fun k => S k i && (M k && M i)) i (d + 1) = if b1 = true ∧ b2 = true then (j : Int) else dnG (fun k => S k i && (M k && M i)) i d := by
              rw [hst]
              by_cases h : b1 = true ∧ b2 = true
              · rw [if_pos h, if_pos (by rw [hb2, h.1, h.2]; rfl)]
              · rw [if_neg h, if_neg (by rw [hb2]; intro hc; exact h (by simpa using hc))]
            have Hst := Aside0.mk hst
            clear hst hb1 hb2
            go_wp2_with fail
            refine HM1.out.mono ?_
            rintro e w6 ⟨rfl, r1⟩
            have HB6 := Aside0.mk (bel_trans HB5.out r1)
            have HBx6 := Aside0.mk (bel_trans HBx5.out r1)
            have HM3 := Aside0.mk (HM2.out w6 r1)
            have g0 : w6.cell? ⟨g, 0, none⟩ = some (.slice A nT c) := bel_cell r1 g0
            have g1 : w6.cell? ⟨g, 1, none⟩ = some (.slice A2 nE c2) := bel_cell r1 g1
            clear r1 HM1 HM2
            cases b1 with
            | false =>
              go_wp2_with fail
              go_roundw
              case rel => exact ⟨d + 1, by have := Hd.out.2.1; go_num, Hd.out.1, by rw [Hst.out, if_neg (by simp)], HBx6⟩
              case measure => have := Hd.out.2.1; have := Hd.out.1; simp [intOf] <;> omega
            | true =>
              go_wp2_with fail
              refine HM3.out.mono ?_
              rintro e w7 ⟨rfl, r1⟩
              have HBx7 := Aside0.mk (bel_trans HBx6.out r1)
              clear r1 HM3
              cases b2 with
              | false =>
                go_wp2_with fail
                go_roundw
                case rel => exact ⟨d + 1, by have := Hd.out.2.1; go_num, Hd.out.1, by rw [Hst.out, if_neg (by simp)], HBx7⟩
                case measure => have := Hd.out.2.1; have := Hd.out.1; simp [intOf] <;> omega
              | true =>
                go_wp2_with fail
                go_roundw
                case rel => exact ⟨d + 1, by have := Hd.out.2.1; go_num, Hd.out.1, by rw [Hst.out]; simp, HBx7⟩
                case measure => have := Hd.out.2.1; have := Hd.out.1; simp [intOf] <;> omega
        · have q1 : ¬ (0 : Int) ≤ (i : Int) - 1 - (d : Int) := by omega
          have q2 : decide ((0 : Int) ≤ (i : Int) - 1 - (d : Int)) = false := decide_eq_false q1
          obtain rfl : d = i := by omega
          have hC := HC.out
          rw [hC]
          obtain ⟨r, hr⟩ : ∃ r, mapG M S d = r := ⟨_, rfl⟩
          rw [hr]
          have hsn := mapL_snoc M S d
          rw [hr] at hsn
          have Hsn := Aside0.mk hsn
          obtain ⟨AV, cV, rfl, -, -⟩ := HO.out.toV
          have HOx := Aside0.mk (HO.out.below HBx.out)
          rw [mapL_len] at HOx ⊢
          obtain ⟨Wa, hWa⟩ : ∃ Wa, wx.alloc (.cells #[.int .i64 r] 3) = Wa := ⟨_, rfl⟩
          have Ba : Below wx.heap.size wx Wa := by rw [← hWa]; exact below_alloc (Below.refl _ _) _
          have HRa := Aside0.mk (show RdV Wa (.slice (some ⟨wx.heap.size, 0, none⟩) 1 1) [r] from RdV.one (by rw [← hWa]; exact blk_cell (heap_alloc_new _ _) 0))
          have HOa := Aside0.mk (HOx.out.below Ba)
          have HBa := Aside0.mk (bel_trans HBw.out Ba)
          clear hdi hd hC hr hsn Ba
          go_wp2_with (first
            | (at_builtin; refine appB (wb := W) rfl (.tmp 47) (.tmp 49) rfl _ _ (mapL M S d) [r] (by rfl) (by rfl) HOa.out HRa.out HBa.out (by rw [mapL_len]; have := H8.out; have := Hi.out; simp; omega) ?_; intro v1 w1 ho1 hb1 _ _)
            | fail)
          have HO9 := Aside0.mk (show OwI w1 W.heap.size v1 (mapL M S (d + 1)) by rw [Hsn.out]; exact ho1)
          have HB9 := Aside0.mk hb1
          clear ho1 hb1 hWa
          go_wp2_with fail
          go_roundw
          case rel => exact ⟨d + 1, by go_num, Hi.out, HO9, HB9⟩
          case measure => have := Hi.out; simp [intOf]; omega
    · have hnb : decide ((i : Int) < (nT : Int)) = false := decide_eq_false (by omega)
      have hnc : decide (i < nT) = false := decide_eq_false hin
      obtain rfl : i = nT := by omega
      have HE := Aside0.mk (And.intro HO.out.toV (bel_trans HBW.out HB.out))
      clear hin hi
      go_wp2_with fail
      go_ret
      exact ⟨_, rfl, HE.out.1, by have h := HE.out.2; first | exact h | (rw [hg] at h; exact h)⟩

end Go.Proofs.YtkpadjhdneiniaaGreatDoor.Am
