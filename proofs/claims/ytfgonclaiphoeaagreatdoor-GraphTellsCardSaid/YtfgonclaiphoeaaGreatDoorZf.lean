/- The document's graph: Reach, its walk. -/
import Derived.Test.YtfgonclaiphoeaaGreatDoorZe
namespace Go.Proofs.YtfgonclaiphoeaaGreatDoor.Rf
set_option linter.unusedVariables false
open Go.RowKit Go.Proofs.YtfgonclaiphoeaaGreatDoorW.PrintWords Go.Proofs.YtfgonclaiphoeaaGreatDoorW.PrintLast Go.Proofs.YtfgonclaiphoeaaGreatDoorW.PrintMore Go.Maps
open Go.Proofs.YtfgonclaiphoeaaGreatDoor.Base Go.Proofs.YtfgonclaiphoeaaGreatDoor.Map Go.Proofs.YtfgonclaiphoeaaGreatDoor.Sl Go.Proofs.YtfgonclaiphoeaaGreatDoor.Ow Go.Proofs.YtfgonclaiphoeaaGreatDoor.Se Go.Proofs.YtfgonclaiphoeaaGreatDoor.Gr

set_option maxHeartbeats 16000000 in
set_option maxRecDepth 100000 in
theorem rreach_any (A A2 : Option Addr) (n c c2 : Nat) (E : List GE) (u : Value) (os : List Int) (w : World) (hE : RdE w A2 E) (hu : RdV w u os) (hR : RightG n E) (hl : os.length ≤ 1000 ∧ n ≤ 1000 ∧ E.length ≤ 1000) :
    Calls Tryz.prog 20 #[.agg #[.slice A n c, .slice A2 E.length c2], u] w fun e w' => ∃ v, e = .returned v ∧ RdV w' v (reachG n E os) ∧ Below w.heap.size w w' := by
  have hal : Below w.heap.size w (w.alloc (.cells #[.slice A n c, .slice A2 E.length c2] 25)) := below_alloc (Below.refl _ _) _
  have Hb : Aside0 ((w.alloc (.cells #[.slice A n c, .slice A2 E.length c2] 25)).heap[w.heap.size]? = some (.cells #[.slice A n c, .slice A2 E.length c2] 25 (0, 0))) := ⟨heap_alloc_new _ _⟩
  have HE := Aside0.mk (hE.below hal)
  have HU := Aside0.mk (hu.below hal)
  have HR := Aside0.mk hR
  have Hl := Aside0.mk hl
  have Hal := Aside0.mk hal
  obtain ⟨A3, c3, rfl, hc3, hr3⟩ := hu
  obtain ⟨nE, hnE⟩ : ∃ n, E.length = n := ⟨_, rfl⟩
  obtain ⟨n3, hn3⟩ : ∃ n, os.length = n := ⟨_, rfl⟩
  have Hn := Aside0.mk (And.intro hnE hn3)
  obtain ⟨W, hW⟩ : ∃ W, w.alloc (.cells #[.slice A n c, .slice A2 E.length c2] 25) = W := ⟨_, rfl⟩
  rw [hW] at Hb HE HU Hal
  rw [hnE] at hW Hb ⊢
  rw [hn3]
  clear hal hE hR hl hc3 hr3 hnE hn3
  go_enter Tryz.func20, Tryz.ntmps20
  go_wp2_with fail
  obtain ⟨g, hg⟩ : ∃ g, w.heap.size = g := ⟨_, rfl⟩
  have Hg := Aside0.mk hg
  rw [hg] at Hb
  simp only [hg]
  clear hW hg
  go_loopw [5, 6] (fun V I wr => ∃ (i : Nat) (l : List Int), I = .int .i64 (i : Int) ∧ i ≤ n3 ∧ Aside0 (RdV wr V l) ∧ Aside0 (Seed n os i l) ∧ Aside0 (Below W.heap.size W wr)) (fun _ I _ => n3 - (intOf I).toNat)
  case atStart => exact ⟨0, [], rfl, Nat.zero_le _, ⟨(OwI.nil W 0).toV⟩, ⟨Seed.start _ _⟩, ⟨Below.refl _ _⟩⟩
  case round =>
    obtain ⟨i, l, rfl, hi, HV, HS, HB⟩ := hrel
    have hb := Ow.blk_below Hb.out HB.out
    have g0 : wr.cell? ⟨g, 0, none⟩ = some (.slice A n c) := blk_cellD hb 0 _ rfl
    have g1 : wr.cell? ⟨g, 1, none⟩ = some (.slice A2 nE c2) := blk_cellD hb 1 _ rfl
    clear hb
    by_cases hin : i < n3
    · have hnb : decide ((i : Int) < (n3 : Int)) = true := decide_eq_true (by omega)
      have hnc : decide (i < n3) = true := decide_eq_true hin
      have hil : i < os.length := by rw [Hn.out.2]; exact hin
      obtain ⟨A4, c4, e4, _, hr4⟩ := HU.out.below HB.out
      injection e4 with e4a e4b e4c
      obtain ⟨ad, had, hx⟩ := hr4.at_ (i : Int) (by omega) (by omega)
      have had2 := e4a.trans had
      clear e4a e4b e4c hr4 had
      subst had2
      have hx : wr.cell? (ad.add i) = some (.int .i64 (os.getD i 0)) := by simpa [rd] using hx
      obtain ⟨x, hxx⟩ : ∃ x, os.getD i 0 = x := ⟨_, rfl⟩
      rw [hxx] at hx
      have i0 : 0 ≤ (i : Int) := by omega
      have i1 : (i : Int) < (n3 : Int) := by omega
      have i2 : (i : Int) ≤ 1000000 := by have := Hl.out; have := Hn.out.2; omega
      have Hin := Aside0.mk (And.intro hin (And.intro hil hxx))
      clear hin hi hil hxx
      replace i0 := eq_true i0
      replace i1 := eq_true i1
      by_cases hx0 : 0 ≤ x ∧ x < (n : Int)
      · obtain ⟨x0, x1⟩ := hx0
        have q0 : decide (x ≥ 0) = true := decide_eq_true x0
        have q1 : decide (x < (n : Int)) = true := decide_eq_true x1
        have HN := Aside0.mk (number_any u5 l x wr.drew (HV.out.below (below_drew (Below.refl _ _))) HS.out.srt (by have := HS.out.len; have := Hl.out; omega))
        have HS2 := Aside0.mk (HS.out.more Hin.out.2.1 (by rw [Hin.out.2.2]; exact x0) (by rw [Hin.out.2.2]; exact x1))
        rw [Hin.out.2.2] at HS2
        go_wp2_with fail
        go_region
        go_wp2_with fail
        refine HN.out.mono ?_
        rintro e w1 ⟨v1, rfl, r1, r2⟩
        have HV1 := Aside0.mk r1
        have HB1 := Aside0.mk (bel_trans (below_drew HB.out) r2)
        clear r1 r2
        go_wp2_with fail
        go_roundw
        case rel => exact ⟨i + 1, _, by go_num, Hin.out.1, HV1, HS2, HB1⟩
        case measure => have := Hin.out.1; simp [intOf]; omega
      · have HS2 := Aside0.mk (HS.out.skip Hin.out.2.1 (by rw [Hin.out.2.2]; exact hx0))
        have hor : x < 0 ∨ (0 ≤ x ∧ (n : Int) ≤ x) := by omega
        clear hx0
        rcases hor with x0 | ⟨x0, x1⟩
        · have q0 : decide (x ≥ 0) = false := decide_eq_false (by omega)
          have q1 : ¬ 0 ≤ x := by omega
          go_wp2_with fail
          go_region
          go_wp2_with fail
          go_roundw
          case rel => exact ⟨i + 1, _, by go_num, Hin.out.1, ⟨HV.out.below (below_drew (Below.refl _ _))⟩, HS2, ⟨below_drew HB.out⟩⟩
          case measure => have := Hin.out.1; simp [intOf]; omega
        · have q0 : decide (x ≥ 0) = true := decide_eq_true x0
          have q1 : decide (x < (n : Int)) = false := decide_eq_false (by omega)
          have q2 : ¬ x < (n : Int) := by omega
          go_wp2_with fail
          go_region
          go_wp2_with fail
          go_roundw
          case rel => exact ⟨i + 1, _, by go_num, Hin.out.1, ⟨HV.out.below (below_drew (Below.refl _ _))⟩, HS2, ⟨below_drew HB.out⟩⟩
          case measure => have := Hin.out.1; simp [intOf]; omega
    · have hnb : decide ((i : Int) < (n3 : Int)) = false := decide_eq_false (by omega)
      have hnc : decide (i < n3) = false := decide_eq_false hin
      obtain rfl : i = n3 := by omega
      have HI := HS.out
      rw [← Hn.out.2] at HI
      have HRI := Aside0.mk (HI.toRI (E := E))
      clear hin hi HI
      go_wp2_with fail
      go_loopg [5, 7] (2 * n + 1) (fun kq V G wx => ∃ (l : List Int) (ag : Bool), G = .bool ag ∧ Aside0 (RdV wx V l) ∧ Aside0 (RI n E os l) ∧ Aside0 (ag = false → ∀ e ∈ E, e.1 ∈ l → e.2.2 ∈ l) ∧ Aside0 (2 * (n - l.length) + (if ag then 1 else 0) ≤ kq) ∧ Aside0 (Below W.heap.size W wx))
      case atStart => exact ⟨l, true, rfl, HV, HRI, ⟨fun h => by cases h⟩, ⟨by simp; omega⟩, HB⟩
      case round =>
        obtain ⟨l, ag, rfl, HV, HI, HC, HK, HB⟩ := hrel
        cases ag with
        | false =>
          go_wp2_with fail
          go_ret
          exact ⟨_, rfl, by rw [← HI.out.done (HC.out trivial)]; exact HV.out, bel_trans Hal.out HB.out⟩
        | true =>
          clear HC
          go_wp2_with fail
          go_loopw [5, 7, 8] (fun V G I wx => ∃ (i : Nat) (ag : Bool) (m : List Int), I = .int .i64 (i : Int) ∧ i ≤ nE ∧ G = .bool ag ∧ Aside0 (RdV wx V m) ∧ Aside0 (RJ n E os l i ag m) ∧ Aside0 (Below W.heap.size W wx)) (fun _ _ I _ => nE - (intOf I).toNat)
          case atStart => exact ⟨0, false, l, rfl, Nat.zero_le _, rfl, HV, ⟨RJ.start HI.out⟩, HB⟩
          case round =>
            obtain ⟨i, ag, m, rfl, hi, rfl, HV2, HJ, HB2⟩ := hrel
            have hb := Ow.blk_below Hb.out HB2.out
            have g0 : wr.cell? ⟨g, 0, none⟩ = some (.slice A n c) := blk_cellD hb 0 _ rfl
            have g1 : wr.cell? ⟨g, 1, none⟩ = some (.slice A2 nE c2) := blk_cellD hb 1 _ rfl
            have Hb2 := Aside0.mk hb
            clear hb
            by_cases hin : i < nE
            · have hnb : decide ((i : Int) < (nE : Int)) = true := decide_eq_true (by omega)
              have hnc : decide (i < nE) = true := decide_eq_true hin
              have hil : i < E.length := by rw [Hn.out.1]; exact hin
              obtain ⟨ad, rfl, e0, e1, e2⟩ := (HE.out.below HB2.out).at_ i hil
              obtain ⟨⟨ea, ef, ez⟩, hee⟩ : ∃ e, E.getD i (0, 0, 0) = e := ⟨_, rfl⟩
              rw [hee] at e0 e1 e2
              have i0 : 0 ≤ (i : Int) := by omega
              have i1 : (i : Int) < (nE : Int) := by omega
              have i2 : (i : Int) ≤ 1000000 := by have := Hl.out; have := Hn.out.1; omega
              have Hin := Aside0.mk (And.intro hin (And.intro hil hee))
              have HA1 := Aside0.mk (has_any u5 m ea wr HV2.out)
              have HcA := Aside0.mk (fun (w1 : World) (hb : Below wr.heap.size wr w1) => And.intro (cell_bel hb e0) (And.intro (cell_bel hb e2) (And.intro (cell_bel hb g0) (cell_bel hb g1))))
              clear hin hi hil hee
              replace i0 := eq_true i0
              replace i1 := eq_true i1
              go_wp2_with fail
              refine HA1.out.mono ?_
              rintro e w1 ⟨rfl, r1⟩
              clear e0 e1 e2 g0 g1 HA1
              have HB3 := Aside0.mk r1
              by_cases hea : ea ∈ m
              · have d1 : decide (ea ∈ m) = true := decide_eq_true hea
                rw [d1]
                obtain ⟨e0, e2, g0, g1⟩ := HcA.out w1 r1
                have Hea := Aside0.mk hea
                have HA2 := Aside0.mk (has_any u5 m ez w1 (HV2.out.below r1))
                clear d1 r1 hea
                go_wp2_with fail
                refine HA2.out.mono ?_
                rintro e w2 ⟨rfl, r2⟩
                have HB4 := Aside0.mk (bel_trans HB3.out r2)
                clear e0 e2 g0 g1 HA2 r2
                obtain ⟨e0, e2, g0, g1⟩ := HcA.out w2 HB4.out
                by_cases hez : ez ∈ m
                · have d1 : decide (ez ∈ m) = true := decide_eq_true hez
                  rw [d1]
                  have HJ2 := Aside0.mk (HJ.out.skip Hin.out.2.1 Hin.out.2.2 (fun _ => hez))
                  clear d1 hez
                  go_wp2_with fail
                  go_roundw
                  case rel => exact ⟨i + 1, ag, m, by go_num, Hin.out.1, rfl, ⟨HV2.out.below HB4.out⟩, HJ2, ⟨bel_trans HB2.out HB4.out⟩⟩
                  case measure => have := Hin.out.1; simp [intOf]; omega
                · have d1 : decide (ez ∈ m) = false := decide_eq_false hez
                  rw [d1]
                  have HJ2 := Aside0.mk (HJ.out.more HR.out Hin.out.2.1 Hin.out.2.2 Hea.out hez)
                  have HN := Aside0.mk (number_any u5 m ez w2 (HV2.out.below HB4.out) HJ.out.ri.srt (by have := HJ.out.ri.len; have := Hl.out; omega))
                  clear d1 hez
                  go_wp2_with fail
                  refine HN.out.mono ?_
                  rintro e w3 ⟨v3, rfl, r1, r2⟩
                  have HV3 := Aside0.mk r1
                  have HB5 := Aside0.mk (bel_trans HB2.out (bel_trans HB4.out r2))
                  clear r1 r2
                  go_wp2_with fail
                  go_roundw
                  case rel => exact ⟨i + 1, true, _, by go_num, Hin.out.1, rfl, HV3, HJ2, HB5⟩
                  case measure => have := Hin.out.1; simp [intOf]; omega
              · have d1 : decide (ea ∈ m) = false := decide_eq_false hea
                rw [d1]
                have HJ2 := Aside0.mk (HJ.out.skip Hin.out.2.1 Hin.out.2.2 (fun h => absurd h hea))
                obtain ⟨e0, e2, g0, g1⟩ := HcA.out w1 r1
                clear d1 hea r1
                go_wp2_with fail
                go_roundw
                case rel => exact ⟨i + 1, ag, m, by go_num, Hin.out.1, rfl, ⟨HV2.out.below HB3.out⟩, HJ2, ⟨bel_trans HB2.out HB3.out⟩⟩
                case measure => have := Hin.out.1; simp [intOf]; omega
            · have hnb : decide ((i : Int) < (nE : Int)) = false := decide_eq_false (by omega)
              have hnc : decide (i < nE) = false := decide_eq_false hin
              obtain rfl : i = nE := by omega
              clear hin hi
              go_wp2_with fail
              go_roundg (2 * (n - m.length) + (if ag then 1 else 0))
              case measure =>
                have h1 := HK.out
                have h2 := HJ.out.ri.len
                have h3 := HJ.out.len0
                cases ag with
                | true => have h4 := HJ.out.grow rfl; simp at h1 ⊢; omega
                | false => simp at h1 ⊢; omega
              case rel => exact ⟨m, ag, rfl, HV2, ⟨HJ.out.ri⟩, ⟨fun h e he => (HJ.out.same h).2 e (by rw [List.take_of_length_le (by rw [Hn.out.1]; exact Nat.le_refl _)]; exact he)⟩, ⟨Nat.le_refl _⟩, HB2⟩
end Go.Proofs.YtfgonclaiphoeaaGreatDoor.Rf
