/- graph.Types; the document's Texts. -/
import Derived.Test.YtfgonclaiphoeaaGreatDoorTb
namespace Go.Proofs.YtfgonclaiphoeaaGreatDoor.Tx
set_option linter.unusedVariables false
open Go.RowKit Go.Proofs.YtfgonclaiphoeaaGreatDoorW.PrintWords Go.Proofs.YtfgonclaiphoeaaGreatDoorW.PrintLast Go.Proofs.YtfgonclaiphoeaaGreatDoorW.PrintMore
open Go.Proofs.YtfgonclaiphoeaaGreatDoor.Base Go.Proofs.YtfgonclaiphoeaaGreatDoor.Map Go.Proofs.YtfgonclaiphoeaaGreatDoor.Sl Go.Proofs.YtfgonclaiphoeaaGreatDoor.Ow Go.Proofs.YtfgonclaiphoeaaGreatDoor.Se Go.Proofs.YtfgonclaiphoeaaGreatDoor.Gr

theorem chg_own {w wr w2 : World} {G : Nat → Prop} (hB : Below w.heap.size w wr) (hG : ∀ k, G k → w.heap.size ≤ k) (hC : Chg G wr w2) : Below w.heap.size w w2 :=
  ((Chg.of_below hB (fun _ => False)).then_ hC (fun k hk => .inr (hG k hk))).below (Nat.le_refl _) (fun k hk => hk.elim)
theorem ext_own {w wr w2 : World} {G : Nat → Prop} (hB : Below w.heap.size w wr) (hG : ∀ k, G k → w.heap.size ≤ k) : ∀ k, ext G wr w2 k → w.heap.size ≤ k :=
  fun k hk => hk.elim (hG k) (fun h => by have h1 := h.1; have h2 := hB.size; omega)
set_option maxHeartbeats 8000000 in
set_option maxRecDepth 100000 in
theorem types_any (p : Nat) (T : List ByteArray) (E : List GE) (u : Value) (os : List Int) (w : World) (h : GA w p T E) (hu : RdV w u os) (hl : T.length ≤ 1000000 ∧ os.length ≤ 1000000) :
    Calls Tryz.prog 33 #[.pointer (some ⟨p, 0, none⟩), u] w fun e w' => ∃ v S, e = .returned v ∧ RdS w' v S ∧ TypS T os S ∧ Below w.heap.size w w' := by
  have H := Aside0.mk h
  have HU := Aside0.mk hu
  obtain ⟨A, c, rfl, hc, hr⟩ := hu
  have HR := Aside0.mk hr
  have Hl := Aside0.mk hl
  obtain ⟨n, hn⟩ : ∃ n, os.length = n := ⟨_, rfl⟩
  have Hn := Aside0.mk hn
  rw [hn]
  clear h hr hl hc hn
  go_enter Tryz.func33, Tryz.ntmps33
  go_wp2_with fail
  go_loopw [5, 10] (fun V I wr => ∃ (i : Nat) (G : Nat → Prop), I = .int .i64 (i : Int) ∧ i ≤ n ∧ Aside0 (OwS wr G V (typL T (os.take i))) ∧ Aside0 (∀ k, G k → w.heap.size ≤ k) ∧ Aside0 (Below w.heap.size w wr)) (fun _ I _ => n - (intOf I).toNat)
  case atStart => exact ⟨0, fun _ => False, rfl, Nat.zero_le _, ⟨by rw [List.take_zero]; exact OwS.nil _ _⟩, ⟨fun k hk => hk.elim⟩, ⟨Below.refl _ _⟩⟩
  case round =>
    obtain ⟨i, G, rfl, hi, HO, HGb, HB⟩ := hrel
    by_cases hin : i < n
    · have hnb : decide ((i : Int) < (n : Int)) = true := decide_eq_true (by omega)
      have hnc : decide (i < n) = true := decide_eq_true hin
      have hil : i < os.length := by rw [Hn.out]; exact hin
      obtain ⟨ad, rfl, hx⟩ := (HR.out.below HB.out).at_ (i : Int) (by omega) (by omega)
      have hx : wr.cell? (ad.add i) = some (.int .i64 (os.getD i 0)) := by simpa [rd] using hx
      obtain ⟨x, hxx⟩ : ∃ x, os.getD i 0 = x := ⟨_, rfl⟩
      rw [hxx] at hx
      have i0 : 0 ≤ (i : Int) := by omega
      have i1 : (i : Int) < (n : Int) := by omega
      have i2 : (i : Int) ≤ 1000000 := by have := Hl.out.2; omega
      have Hin := Aside0.mk (And.intro hin (And.intro hil hxx))
      have hG := H.out.below HB.out
      have HTh := Aside0.mk (thereA hG x)
      obtain ⟨AT, cT, t0, hrT⟩ := GA_types hG
      have hlen := typL_len T (os.take i)
      have Hlen := Aside0.mk (show (typL T (os.take i)).length ≤ 1000000 by
        have h2 := List.length_take_le i os
        have := Hl.out.2
        omega)
      clear hin hi hil hxx hlen
      replace i0 := eq_true i0
      replace i1 := eq_true i1
      by_cases hv : 0 ≤ x ∧ x < T.length
      · obtain ⟨m, rfl⟩ := Int.eq_ofNat_of_zero_le hv.1
        obtain ⟨adT, rfl, et⟩ := hrT.at_ m (by omega)
        have ety : typeG T (m : Int) = T.getD m ByteArray.empty := by unfold typeG; rw [if_pos hv]; simp
        have Hst := Aside0.mk (typL_more Hin.out.2.1 Hin.out.2.2 hv)
        obtain ⟨y, hy⟩ : ∃ y, T.getD m ByteArray.empty = y := ⟨_, rfl⟩
        rw [ety, hy] at Hst
        rw [hy] at et
        obtain ⟨nT, hnT⟩ : ∃ n, T.length = n := ⟨_, rfl⟩
        have hd := decide_eq_true hv
        rw [hd] at HTh
        rw [hnT] at t0 hv
        have m0 : 0 ≤ (m : Int) := by omega
        have m1 : (m : Int) < (nT : Int) := by omega
        clear hv hd ety hy hnT hrT hG
        replace m0 := eq_true m0
        replace m1 := eq_true m1
        have hal : Below wr.heap.size wr (wr.alloc (.cells #[.string y] 9)) := below_alloc (Below.refl _ _) _
        have HO3 := Aside0.mk (HO.out.below hal)
        have HRd : Aside0 (RdS (wr.alloc (.cells #[.string y] 9)) (.slice (some ⟨wr.heap.size, 0, none⟩) 1 1) [y]) := ⟨RdS.lit (l := [y]) (heap_alloc_new _ _) rfl (by simp)⟩
        have HB3 := Aside0.mk (bel_trans HB.out hal)
        clear hal
        go_wp2_with fail
        refine HTh.out.mono ?_
        rintro e w' ⟨rfl, rfl⟩
        go_wp2_with (first | (at_builtin; refine appS (G := G) rfl (.tmp 17) (.tmp 25) rfl _ _ (typL T (os.take i)) [y] rfl rfl HO3.out HRd.out (by have := Hlen.out; simp; omega) ?_; intro v1 w3 ho1 hc1) | go_in)
        have HB2 := Aside0.mk (chg_own HB3.out HGb.out hc1)
        have HG2 := Aside0.mk (ext_own (w2 := w3) HB3.out HGb.out)
        have HO2 := Aside0.mk ho1
        clear ho1 hc1
        go_roundw
        case rel => exact ⟨i + 1, _, by go_num, Hin.out.1, ⟨by rw [Hst.out]; exact HO2.out⟩, HG2, HB2⟩
        case measure => have := Hin.out.1; simp [intOf]; omega
      · have Hst := Aside0.mk (typL_skip Hin.out.2.1 Hin.out.2.2 hv)
        have hd := decide_eq_false hv
        rw [hd] at HTh
        clear hv hd hrT hG
        go_wp2_with fail
        refine HTh.out.mono ?_
        rintro e w' ⟨rfl, rfl⟩
        go_wp2_with fail
        go_roundw
        case rel => exact ⟨i + 1, G, by go_num, Hin.out.1, ⟨by rw [Hst.out]; exact HO.out⟩, HGb, HB⟩
        case measure => have := Hin.out.1; simp [intOf]; omega
    · have hnb : decide ((i : Int) < (n : Int)) = false := decide_eq_false (by omega)
      have hnc : decide (i < n) = false := decide_eq_false hin
      obtain rfl : i = n := by omega
      have ht : os.take i = os := List.take_of_length_le (by rw [Hn.out]; exact Nat.le_refl _)
      rw [ht] at HO
      have Hlen := Aside0.mk (Nat.le_trans (typL_len T os) Hl.out.2)
      clear hin hi ht
      go_wp2_with fail
      refine (sortS_own _ _ G _ HO.out (by have := Hlen.out; omega)).mono ?_
      rintro e w2 ⟨rfl, r1, r2⟩
      have HO2 := Aside0.mk r1
      have HB2 := Aside0.mk (chg_own HB.out HGb.out r2)
      clear r1 r2
      go_wp2_with fail
      refine (compactS_own _ _ G _ HO2.out).mono ?_
      rintro e w3 ⟨v3, rfl, r1, r2⟩
      have HO3 := Aside0.mk r1
      have HB3 := Aside0.mk (chg_own HB2.out HGb.out r2)
      clear r1 r2
      go_wp2_with fail
      go_ret
      exact ⟨_, _, rfl, HO3.out.toV, TypS.of_sort T os, HB3.out⟩
set_option maxHeartbeats 4000000 in
set_option maxRecDepth 100000 in
theorem texts_same (u v : Value) (S : List ByteArray) (w : World) (hu : RdS w u S) (hv : RdS w v S) (hl : S.length ≤ 1000000) :
    Calls Tryz.prog 32 #[u, v] w fun e w' => e = .returned (.bool true) ∧ Below w.heap.size w w' := by
  obtain ⟨A, c, rfl, hc, hr⟩ := hu
  obtain ⟨A2, c2, rfl, hc2, hr2⟩ := hv
  have HR := Aside0.mk (And.intro hr hr2)
  have Hl := Aside0.mk hl
  obtain ⟨n, hn⟩ : ∃ n, S.length = n := ⟨_, rfl⟩
  have Hn := Aside0.mk hn
  rw [hn]
  clear hr hr2 hl hc hc2 hn
  go_enter Tryz.func32, Tryz.ntmps32
  go_wp2_with fail
  go_loopw [5] (fun I wr => ∃ i : Nat, I = .int .i64 (i : Int) ∧ i ≤ n ∧ Aside0 (Below w.heap.size w wr)) (fun I _ => n - (intOf I).toNat)
  case atStart => exact ⟨0, rfl, Nat.zero_le _, ⟨Below.refl _ _⟩⟩
  case round =>
    obtain ⟨i, rfl, hi, HB⟩ := hrel
    by_cases hin : i < n
    · have hnb : decide ((i : Int) < (n : Int)) = true := decide_eq_true (by omega)
      have hnc : decide (i < n) = true := decide_eq_true hin
      have hil : i < S.length := by rw [Hn.out]; exact hin
      obtain ⟨ad, rfl, e1⟩ := (HR.out.1.below HB.out).at_ i hil
      obtain ⟨ad2, rfl, e2⟩ := (HR.out.2.below HB.out).at_ i hil
      obtain ⟨x, hxx⟩ : ∃ x, S.getD i ByteArray.empty = x := ⟨_, rfl⟩
      rw [hxx] at e1 e2
      have i0 : 0 ≤ (i : Int) := by omega
      have i1 : (i : Int) < (n : Int) := by omega
      have i2 : (i : Int) ≤ 1000000 := by have := Hl.out; have := Hn.out; omega
      have Hin := Aside0.mk hin
      clear hin hi hil hxx
      replace i0 := eq_true i0
      replace i1 := eq_true i1
      go_wp2_with fail
      go_region
      go_wp2_with fail
      go_roundw
      case rel => exact ⟨i + 1, by go_num, Hin.out, ⟨below_drew HB.out⟩⟩
      case measure => have := Hin.out; simp [intOf]; omega
    · have hnb : decide ((i : Int) < (n : Int)) = false := decide_eq_false (by omega)
      have hnc : decide (i < n) = false := decide_eq_false hin
      obtain rfl : i = n := by omega
      clear hin hi
      go_wp2_with fail
      go_ret
      exact ⟨rfl, HB.out⟩
end Go.Proofs.YtfgonclaiphoeaaGreatDoor.Tx
