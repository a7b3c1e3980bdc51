/- The references' Put. -/
import Derived.Test.YtkpadjhdneiniaaGreatDoorRa
namespace Go.Proofs.YtkpadjhdneiniaaGreatDoor.Rf
set_option linter.unusedVariables false
open Go.RowKit Go.Proofs.YtkpadjhdneiniaaGreatDoorW.PrintWords Go.Proofs.YtkpadjhdneiniaaGreatDoorW.PrintLast Go.Proofs.YtkpadjhdneiniaaGreatDoorW.PrintMore Go.Maps
open Go.Proofs.YtkpadjhdneiniaaGreatDoor.Base Go.Proofs.YtkpadjhdneiniaaGreatDoor.Map Go.Proofs.YtkpadjhdneiniaaGreatDoor.Sl Go.Proofs.YtkpadjhdneiniaaGreatDoor.Ow Go.Proofs.YtkpadjhdneiniaaGreatDoor.Se Go.Proofs.YtkpadjhdneiniaaGreatDoor.Gr

theorem lt_below {l : List Int} (h : Srt l) {n : Int} {i : Nat} (hi : i < l.length) : l.getD i 0 < n ↔ i < below l n := by
  obtain ⟨h1, h2⟩ := take_below (n := n) h
  have e : l.getD i 0 = l[i] := by simp [List.getElem?_eq_getElem hi]
  rw [e]
  constructor
  · intro hlt
    refine Nat.lt_of_not_ge fun hge => ?_
    have hm : l[i] ∈ l.drop (below l n) := by
      rw [List.mem_drop_iff_getElem]
      exact ⟨i - below l n, by omega, by congr 1; omega⟩
    have := h2 _ hm
    omega
  · intro hlt
    refine h1 _ ?_
    rw [List.mem_take_iff_getElem]
    exact ⟨i, by omega, rfl⟩
theorem take_get (l : List Int) (i : Nat) (hi : i < l.length) : l.take (i + 1) = l.take i ++ [l.getD i 0] := by
  rw [List.take_succ_eq_append_getElem hi]; simp [List.getElem?_eq_getElem hi]
set_option maxHeartbeats 8000000 in
set_option maxRecDepth 100000 in
theorem put_same (u : Value) (l : List Int) (n : Int) (w : World) (hu : RdV w u l) (h : ¬ (0 ≤ n ∧ n < 1048576) ∨ n ∈ l) :
    Calls Tryz.prog 56 #[u, .int .i64 n] w fun e w' => e = .returned u ∧ Below w.heap.size w w' := by
  by_cases h0 : n < 0
  · go_enter Tryz.func56, Tryz.ntmps56
    go_wp2
    go_ret
    exact ⟨rfl, Below.refl _ _⟩
  · by_cases h1 : 1048575 < n
    · have h2 : 0 ≤ n := by omega
      clear h h0
      go_enter Tryz.func56, Tryz.ntmps56
      go_wp2
      go_ret
      exact ⟨rfl, Below.refl _ _⟩
    · have hm : n ∈ l := h.resolve_left (fun h => h ⟨by omega, by omega⟩)
      have h2 : 0 ≤ n := by omega
      have h3 : n ≤ 1048575 := by omega
      have Hm := Aside0.mk (decide_eq_true hm)
      clear h h0 h1 hm
      go_enter Tryz.func56, Tryz.ntmps56
      go_wp2_with fail
      refine (has_any u l n w hu).mono ?_
      rintro e w1 ⟨rfl, r1⟩
      rw [Hm.out]
      go_wp2
      go_ret
      exact ⟨rfl, r1⟩
theorem tail2 {w w3 w4 : World} {G : Nat → Prop} (h : Below w.heap.size w w3) (hG : ∀ k, G k → w.heap.size ≤ k) (hC : Chg G w3 w4) : Below w.heap.size w w4 :=
  ((Chg.of_below h (fun _ => False)).then_ hC (fun k hk => .inr (hG k hk))).below (Nat.le_refl _) (fun k hk => hk.elim)
set_option maxHeartbeats 8000000 in
set_option maxRecDepth 100000 in
theorem put_more (u : Value) (l : List Int) (n : Int) (w : World) (hu : RdV w u l) (hs : Srt l) (h0 : 0 ≤ n) (h1 : n < 1048576) (hm : n ∉ l) (hl : l.length ≤ 1000000) :
    Calls Tryz.prog 56 #[u, .int .i64 n] w fun e w' => ∃ v, e = .returned v ∧ RdV w' v (ins l n) ∧ Below w.heap.size w w' := by
  have HU := Aside0.mk hu
  obtain ⟨A, c, rfl, hc, hr⟩ := hu
  have hb := below_le l n
  have hins := ins_new hm
  obtain ⟨b, hbb⟩ : ∃ b, below l n = b := ⟨_, rfl⟩
  rw [hbb] at hb hins
  have hlb : ∀ i, i < l.length → (l.getD i 0 < n ↔ i < b) := fun i hi => by rw [← hbb]; exact lt_below hs hi
  obtain ⟨A', c', hcut, hcutR⟩ := cut_from A c l (b : Int) (by omega) (by omega) hc
  rw [Int.toNat_natCast] at hcut hcutR
  obtain ⟨m, hmm⟩ : ∃ m, (l.drop b).length = m := ⟨_, rfl⟩
  rw [hmm] at hcut hcutR
  clear hmm
  have HR := Aside0.mk hr
  have Hc := Aside0.mk (And.intro hcutR (And.intro hins hlb))
  have Hl := Aside0.mk (And.intro hl hb)
  have Hm := Aside0.mk (decide_eq_false hm)
  have h2 : n ≤ 1048575 := by omega
  clear hr hc hs hm hl hb hbb hins hlb hcutR
  go_enter Tryz.func56, Tryz.ntmps56
  go_wp2_with fail
  refine (has_any _ l n w HU.out).mono ?_
  rintro e w1 ⟨rfl, r1⟩
  rw [Hm.out]
  have HB1 := Aside0.mk r1
  clear r1
  go_wp2_with fail
  go_loopw [5, 6] (fun V I wr => ∃ (i : Nat) (G : Nat → Prop), I = .int .i64 (i : Int) ∧ i ≤ b ∧ Aside0 (OwF wr G V (l.take i)) ∧ Aside0 (∀ k, G k → w.heap.size ≤ k) ∧ Aside0 (Below w.heap.size w wr)) (fun _ I _ => b - (intOf I).toNat)
  case atStart => exact ⟨0, fun _ => False, rfl, Nat.zero_le _, ⟨OwF.nil _ _⟩, ⟨fun k hk => hk.elim⟩, HB1⟩
  case round =>
    obtain ⟨i, G, rfl, hi, HO, HGb, HB⟩ := hrel
    by_cases hin : i < b
    · have hil : i < l.length := by have := Hl.out; omega
      have hnb : decide ((i : Int) < (l.length : Int)) = true := decide_eq_true (by omega)
      have hnc : decide (i < l.length) = true := decide_eq_true hil
      obtain ⟨ad, rfl, hx⟩ := (HR.out.below HB.out).at_ (i : Int) (by omega) (by omega)
      rw [Int.toNat_natCast] at hx
      have hx2 : rd l (i : Int) = l.getD i 0 := by simp [rd]
      have htk := take_get l i hil
      have hlt := (Hc.out.2.2 i hil).2 hin
      obtain ⟨x, hxx⟩ : ∃ x, l.getD i 0 = x := ⟨_, rfl⟩
      rw [hx2, hxx] at hx
      rw [hxx] at htk hlt
      have i0 : 0 ≤ (i : Int) := by omega
      have i1 : (i : Int) < (l.length : Int) := by omega
      have i2 : (i : Int) ≤ 1000000 := by have := Hl.out; omega
      have q1 : decide (x < n) = true := decide_eq_true hlt
      have Hin := Aside0.mk (And.intro hin (And.intro htk hil))
      clear hin hi hil hx2 hxx htk hlt
      replace i0 := eq_true i0
      replace i1 := eq_true i1
      have hal : Below wr.heap.size wr (wr.alloc (.cells #[.int .i64 x] 3)) := below_alloc (Below.refl _ _) _
      have HO3 := Aside0.mk (HO.out.below hal)
      have HRd : Aside0 (RdV (wr.alloc (.cells #[.int .i64 x] 3)) (.slice (some ⟨wr.heap.size, 0, none⟩) 1 1) [x]) := ⟨RdV.one (blk_cell (heap_alloc_new _ _) 0)⟩
      have HB3 := Aside0.mk (bel_trans HB.out hal)
      clear hal
      go_wp2_with (first | (at_builtin; refine appF (G := G) rfl (.tmp 31) (.tmp 36) rfl _ _ (l.take i) [x] rfl rfl HO3.out HRd.out (by have := Hl.out; have := Hin.out.2.2; simp; omega) ?_; intro v1 w3 ho1 hc1) | go_in)
      have hB2 : Below w.heap.size w w3 := ((Chg.of_below HB3.out (fun _ => False)).then_ hc1 (fun k hk => .inr (HGb.out k hk))).below (Nat.le_refl _) (fun k hk => hk.elim)
      have HB2 := Aside0.mk hB2
      have HG2 := Aside0.mk (show ∀ k, ext G (wr.alloc (.cells #[.int .i64 x] 3)) w3 k → w.heap.size ≤ k from fun k hk => hk.elim (HGb.out k) (fun h => by have h1 := h.1; have h2 := HB3.out.size; omega))
      have HO2 := Aside0.mk ho1
      clear ho1 hc1 hB2
      go_roundw
      case rel => exact ⟨i + 1, _, by go_num, Hin.out.1, ⟨by rw [Hin.out.2.1]; exact HO2.out⟩, HG2, HB2⟩
      case measure => have := Hin.out.1; simp [intOf]; omega
    · obtain rfl : i = b := by omega
      have HRw := Aside0.mk (HR.out.below HB.out)
      have tail : Aside0 (∀ w3 v1, OwF w3 (ext G (wr.alloc (.cells #[.int .i64 n] 3)) w3) v1 (l.take i ++ [n]) → Chg G (wr.alloc (.cells #[.int .i64 n] 3)) w3 → (∀ k, ext G (wr.alloc (.cells #[.int .i64 n] 3)) w3 k → w.heap.size ≤ k) ∧ Below w.heap.size w w3) := ⟨fun w3 v1 ho hc => by
        have hB3 := bel_trans HB.out (below_alloc (Below.refl wr.heap.size wr) (.cells #[.int .i64 n] 3))
        exact ⟨fun k hk => hk.elim (HGb.out k) (fun h => by have h1 := h.1; have h2 := hB3.size; omega), ((Chg.of_below hB3 (fun _ => False)).then_ hc (fun k hk => .inr (HGb.out k hk))).below (Nat.le_refl _) (fun k hk => hk.elim)⟩⟩
      have hal : Below wr.heap.size wr (wr.alloc (.cells #[.int .i64 n] 3)) := below_alloc (Below.refl _ _) _
      have HO3 := Aside0.mk (HO.out.below hal)
      have HRd : Aside0 (RdV (wr.alloc (.cells #[.int .i64 n] 3)) (.slice (some ⟨wr.heap.size, 0, none⟩) 1 1) [n]) := ⟨RdV.one (blk_cell (heap_alloc_new _ _) 0)⟩
      have i0 : 0 ≤ (i : Int) := by omega
      have i2 : (i : Int) ≤ 1000000 := by have := Hl.out; omega
      clear hal hi hin
      by_cases hil : i < l.length
      · have hnb : decide ((i : Int) < (l.length : Int)) = true := decide_eq_true (by omega)
        have hnc : decide (i < l.length) = true := decide_eq_true hil
        obtain ⟨ad, rfl, hx⟩ := HRw.out.at_ (i : Int) (by omega) (by omega)
        rw [Int.toNat_natCast] at hx
        have hx2 : rd l (i : Int) = l.getD i 0 := by simp [rd]
        have hlt : ¬ l.getD i 0 < n := fun h => by have := (Hc.out.2.2 i hil).1 h; omega
        obtain ⟨x, hxx⟩ : ∃ x, l.getD i 0 = x := ⟨_, rfl⟩
        rw [hx2, hxx] at hx
        rw [hxx] at hlt
        have i1 : (i : Int) < (l.length : Int) := by omega
        have i3 : (i : Int) ≤ (l.length : Int) := by omega
        have q1 : decide (x < n) = false := decide_eq_false hlt
        clear hil hx2 hxx hlt
        replace i0 := eq_true i0
        replace i1 := eq_true i1
        replace i3 := eq_true i3
        go_wp2_with (first
          | (at_builtin; refine appF (G := G) rfl (.tmp 40) (.tmp 42) rfl _ _ (l.take i) [n] rfl rfl HO3.out HRd.out (by have := Hl.out; simp; omega) ?_; intro v1 w3 ho1 hc1; have HT3 := Aside0.mk (tail.out w3 v1 ho1 hc1); have HO4 := Aside0.mk ho1; have HRc := Aside0.mk (Hc.out.1 w3 (HR.out.below HT3.out.2)); clear ho1 hc1)
          | (at_builtin; refine appF rfl (.tmp 44) (.tmp 47) rfl _ _ (l.take i ++ [n]) (l.drop i) rfl rfl HO4.out HRc.out (by have := Hl.out; simp; omega) ?_; intro v2 w4 ho2 hc2)
          | go_in)
        have hB4 := tail2 HT3.out.2 HT3.out.1 hc2
        go_ret
        exact ⟨_, rfl, by rw [Hc.out.2.1, show l.take i ++ n :: l.drop i = l.take i ++ [n] ++ l.drop i by simp]; exact ho2.toV, hB4⟩
      · have hnb : decide ((i : Int) < (l.length : Int)) = false := decide_eq_false (by omega)
        have hnc : decide (i < l.length) = false := decide_eq_false hil
        have i3 : (i : Int) ≤ (l.length : Int) := by have := Hl.out; omega
        clear hil
        replace i0 := eq_true i0
        replace i3 := eq_true i3
        go_wp2_with (first
          | (at_builtin; refine appF (G := G) rfl (.tmp 40) (.tmp 42) rfl _ _ (l.take i) [n] rfl rfl HO3.out HRd.out (by have := Hl.out; simp; omega) ?_; intro v1 w3 ho1 hc1; have HT3 := Aside0.mk (tail.out w3 v1 ho1 hc1); have HO4 := Aside0.mk ho1; have HRc := Aside0.mk (Hc.out.1 w3 (HR.out.below HT3.out.2)); clear ho1 hc1)
          | (at_builtin; refine appF rfl (.tmp 44) (.tmp 47) rfl _ _ (l.take i ++ [n]) (l.drop i) rfl rfl HO4.out HRc.out (by have := Hl.out; simp; omega) ?_; intro v2 w4 ho2 hc2)
          | go_in)
        have hB4 := tail2 HT3.out.2 HT3.out.1 hc2
        go_ret
        exact ⟨_, rfl, by rw [Hc.out.2.1, show l.take i ++ n :: l.drop i = l.take i ++ [n] ++ l.drop i by simp]; exact ho2.toV, hB4⟩
/-- Put -/
theorem put_any (u : Value) (l : List Int) (n : Int) (w : World) (hu : RdV w u l) (hs : Srt l) (hl : l.length ≤ 1000000) :
    Calls Tryz.prog 56 #[u, .int .i64 n] w fun e w' => ∃ v, e = .returned v ∧ RdV w' v (addL l n) ∧ Below w.heap.size w w' := by
  by_cases h : 0 ≤ n ∧ n < 1048576
  · have e : addL l n = ins l n := if_pos h
    rw [e]
    by_cases hm : n ∈ l
    · refine (put_same u l n w hu (.inr hm)).mono ?_
      rintro e w' ⟨rfl, hb⟩
      rw [ins_old hm]
      exact ⟨_, rfl, hu.below hb, hb⟩
    · exact put_more u l n w hu hs h.1 h.2 hm hl
  · have e : addL l n = l := if_neg h
    rw [e]
    refine (put_same u l n w hu (.inl h)).mono ?_
    rintro e w' ⟨rfl, hb⟩
    exact ⟨_, rfl, hu.below hb, hb⟩
end Go.Proofs.YtkpadjhdneiniaaGreatDoor.Rf
