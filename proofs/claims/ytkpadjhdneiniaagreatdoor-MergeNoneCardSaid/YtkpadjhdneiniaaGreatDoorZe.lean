/- The document's Fields and Next: what they hand back is apart from what was there (printed by gen_ze.py). -/
import Derived.Test.YtkpadjhdneiniaaGreatDoorTe
import Derived.Test.YtkpadjhdneiniaaGreatDoorZd
namespace Go.Proofs.YtkpadjhdneiniaaGreatDoor.Tx
set_option linter.unusedVariables false
open Go.RowKit Go.Proofs.YtkpadjhdneiniaaGreatDoorW.PrintWords Go.Proofs.YtkpadjhdneiniaaGreatDoorW.PrintLast Go.Proofs.YtkpadjhdneiniaaGreatDoorW.PrintMore Go.Maps
open Go.Proofs.YtkpadjhdneiniaaGreatDoor.Rf Go.Proofs.YtkpadjhdneiniaaGreatDoor.Base Go.Proofs.YtkpadjhdneiniaaGreatDoor.Map Go.Proofs.YtkpadjhdneiniaaGreatDoor.Sl Go.Proofs.YtkpadjhdneiniaaGreatDoor.Ow Go.Proofs.YtkpadjhdneiniaaGreatDoor.Se Go.Proofs.YtkpadjhdneiniaaGreatDoor.Gr

open Go.RowKit Go.Proofs.YtkpadjhdneiniaaGreatDoorW.PrintWords Go.Proofs.YtkpadjhdneiniaaGreatDoorW.PrintLast Go.Proofs.YtkpadjhdneiniaaGreatDoorW.PrintMore Go.Maps
open Go.Proofs.YtkpadjhdneiniaaGreatDoor.Base Go.Proofs.YtkpadjhdneiniaaGreatDoor.Map Go.Proofs.YtkpadjhdneiniaaGreatDoor.Sl Go.Proofs.YtkpadjhdneiniaaGreatDoor.Ow Go.Proofs.YtkpadjhdneiniaaGreatDoor.Se Go.Proofs.YtkpadjhdneiniaaGreatDoor.Gr
variable {E : List GE} {os : List Int} {i : Nat} {a f z : Int}
/-- v reads as l, whatever changes below base -/
structure Fr (base : Nat) (w : World) (v : Value) (l : List Int) : Prop where
  mk :: (out : ∀ W, Chg (fun k => k < base) w W → RdV W v l)
theorem Fr.rd {base : Nat} {w : World} {v : Value} {l : List Int} (h : Fr base w v l) : RdV w v l := h.out w (Chg.refl _ w)
theorem Fr.below {base : Nat} {w w1 : World} {v : Value} {l : List Int} (h : Fr base w v l) (hb : Below w.heap.size w w1) : Fr base w1 v l := ⟨fun W hW => h.out W ((Chg.of_below hb _).then_ hW (fun k hk => .inl hk))⟩
theorem Fr.of_own {base : Nat} {w : World} {v : Value} {l : List Int} {G : Nat → Prop} (h : OwF w G v l) (hG : ∀ k, G k → base ≤ k) : Fr base w v l := ⟨fun W hW => (h.chg hW (fun k hk hlt => by have := hG k hk; omega)).toV⟩
theorem Fr.nil (base : Nat) (w : World) : Fr base w (.slice none 0 0) [] := ⟨fun W _ => (OwI.nil W 0).toV⟩
set_option maxHeartbeats 8000000 in
set_option maxRecDepth 100000 in
theorem numberF_any (base : Nat) (u : Value) (l : List Int) (n : Int) (w : World) (hu : Fr base w u l) (hbase : base ≤ w.heap.size) (hs : Srt l) (hl : l.length ≤ 1000000) :
    Calls Tryz.prog 71 #[u, .int .i64 n] w fun e w' => ∃ v, e = .returned v ∧ Fr base w' v (ins l n) ∧ Below w.heap.size w w' := by
  have HU := Aside0.mk hu
  have Hbase := Aside0.mk hbase
  obtain ⟨A, c, rfl, hc, hr⟩ := hu.rd
  have hb := below_le l n
  have hins : n ∉ l → ins l n = l.take (below l n) ++ n :: l.drop (below l n) := fun hm => ins_new hm
  have hat := mem_at hs n
  obtain ⟨b, hbb⟩ : ∃ b, below l n = b := ⟨_, rfl⟩
  rw [hbb] at hb hins hat
  have hlb : ∀ i, i < l.length → (l.getD i 0 < n ↔ i < b) := fun i hi => by rw [← hbb]; exact lt_below hs hi
  obtain ⟨A', c', hcut, hcutR⟩ := cut_from A c l (b : Int) (by omega) (by omega) hc
  rw [Int.toNat_natCast] at hcut hcutR
  obtain ⟨m, hmm⟩ : ∃ m, (l.drop b).length = m := ⟨_, rfl⟩
  rw [hmm] at hcut hcutR
  clear hmm
  have HR := Aside0.mk hr
  have Hc := Aside0.mk (And.intro hcutR (And.intro hins hlb))
  have Hl := Aside0.mk (And.intro hl hb)
  have Hat := Aside0.mk hat
  clear hbase hr hc hs hl hb hbb hins hlb hcutR hat
  go_enter Tryz.func71, Tryz.ntmps71
  go_wp2_with fail
  go_loopw [5, 6] (fun V I wr => ∃ (i : Nat) (G : Nat → Prop), I = .int .i64 (i : Int) ∧ i ≤ b ∧ Aside0 (OwF wr G V (l.take i)) ∧ Aside0 (∀ k, G k → w.heap.size ≤ k) ∧ Aside0 (Below w.heap.size w wr)) (fun _ I _ => b - (intOf I).toNat)
  case atStart => exact ⟨0, fun _ => False, rfl, Nat.zero_le _, ⟨OwF.nil _ _⟩, ⟨fun k hk => hk.elim⟩, ⟨Below.refl _ _⟩⟩
  case round =>
    obtain ⟨i, G, rfl, hi, HO, HGb, HB⟩ := hrel
    by_cases hin : i < b
    · have hil : i < l.length := by have := Hl.out; omega
      have hnb : decide ((i : Int) < (l.length : Int)) = true := decide_eq_true (by omega)
      have hnc : decide (i < l.length) = true := decide_eq_true hil
      obtain ⟨ad, rfl, hx⟩ := (HR.out.below HB.out).at_ (i : Int) (by omega) (by omega)
      rw [Int.toNat_natCast] at hx
      have hx2 : rd l (i : Int) = l.getD i 0 := by simp [rd]
      have htk := take_get l i hil
      have hlt := (Hc.out.2.2 i hil).2 hin
      obtain ⟨x, hxx⟩ : ∃ x, l.getD i 0 = x := ⟨_, rfl⟩
      rw [hx2, hxx] at hx
      rw [hxx] at htk hlt
      have i0 : 0 ≤ (i : Int) := by omega
      have i1 : (i : Int) < (l.length : Int) := by omega
      have i2 : (i : Int) ≤ 1000000 := by have := Hl.out; omega
      have q1 : decide (x < n) = true := decide_eq_true hlt
      have Hin := Aside0.mk (And.intro hin (And.intro htk hil))
      clear hin hi hil hx2 hxx htk hlt
      replace i0 := eq_true i0
      replace i1 := eq_true i1
      have hal : Below wr.heap.size wr (wr.alloc (.cells #[.int .i64 x] 3)) := below_alloc (Below.refl _ _) _
      have HO3 := Aside0.mk (HO.out.below hal)
      have HRd : Aside0 (RdV (wr.alloc (.cells #[.int .i64 x] 3)) (.slice (some ⟨wr.heap.size, 0, none⟩) 1 1) [x]) := ⟨RdV.one (blk_cell (heap_alloc_new _ _) 0)⟩
      have HB3 := Aside0.mk (bel_trans HB.out hal)
      clear hal
      go_wp2_with (first | (at_builtin; refine appF (G := G) rfl (.tmp 19) (.tmp 24) rfl _ _ (l.take i) [x] rfl rfl HO3.out HRd.out (by have := Hl.out; have := Hin.out.2.2; simp; omega) ?_; intro v1 w3 ho1 hc1) | go_in)
      have hB2 : Below w.heap.size w w3 := ((Chg.of_below HB3.out (fun _ => False)).then_ hc1 (fun k hk => .inr (HGb.out k hk))).below (Nat.le_refl _) (fun k hk => hk.elim)
      have HB2 := Aside0.mk hB2
      have HG2 := Aside0.mk (show ∀ k, ext G (wr.alloc (.cells #[.int .i64 x] 3)) w3 k → w.heap.size ≤ k from fun k hk => hk.elim (HGb.out k) (fun h => by have h1 := h.1; have h2 := HB3.out.size; omega))
      have HO2 := Aside0.mk ho1
      clear ho1 hc1 hB2
      go_roundw
      case rel => exact ⟨i + 1, _, by go_num, Hin.out.1, ⟨by rw [Hin.out.2.1]; exact HO2.out⟩, HG2, HB2⟩
      case measure => have := Hin.out.1; simp [intOf]; omega
    · obtain rfl : i = b := by omega
      have HRw := Aside0.mk (HR.out.below HB.out)
      have tail : Aside0 (∀ w3 v1, OwF w3 (ext G (wr.alloc (.cells #[.int .i64 n] 3)) w3) v1 (l.take i ++ [n]) → Chg G (wr.alloc (.cells #[.int .i64 n] 3)) w3 → (∀ k, ext G (wr.alloc (.cells #[.int .i64 n] 3)) w3 k → w.heap.size ≤ k) ∧ Below w.heap.size w w3) := ⟨fun w3 v1 ho hc => by
        have hB3 := bel_trans HB.out (below_alloc (Below.refl wr.heap.size wr) (.cells #[.int .i64 n] 3))
        exact ⟨fun k hk => hk.elim (HGb.out k) (fun h => by have h1 := h.1; have h2 := hB3.size; omega), ((Chg.of_below hB3 (fun _ => False)).then_ hc (fun k hk => .inr (HGb.out k hk))).below (Nat.le_refl _) (fun k hk => hk.elim)⟩⟩
      have hal : Below wr.heap.size wr (wr.alloc (.cells #[.int .i64 n] 3)) := below_alloc (Below.refl _ _) _
      have HO3 := Aside0.mk (HO.out.below hal)
      have HRd : Aside0 (RdV (wr.alloc (.cells #[.int .i64 n] 3)) (.slice (some ⟨wr.heap.size, 0, none⟩) 1 1) [n]) := ⟨RdV.one (blk_cell (heap_alloc_new _ _) 0)⟩
      have i0 : 0 ≤ (i : Int) := by omega
      have i2 : (i : Int) ≤ 1000000 := by have := Hl.out; omega
      clear hal hi hin
      by_cases hil : i < l.length
      · have hnb : decide ((i : Int) < (l.length : Int)) = true := decide_eq_true (by omega)
        have hnc : decide (i < l.length) = true := decide_eq_true hil
        obtain ⟨ad, rfl, hx⟩ := HRw.out.at_ (i : Int) (by omega) (by omega)
        rw [Int.toNat_natCast] at hx
        have hx2 : rd l (i : Int) = l.getD i 0 := by simp [rd]
        have hlt : ¬ l.getD i 0 < n := fun h => by have := (Hc.out.2.2 i hil).1 h; omega
        obtain ⟨x, hxx⟩ : ∃ x, l.getD i 0 = x := ⟨_, rfl⟩
        rw [hx2, hxx] at hx
        rw [hxx] at hlt
        have i1 : (i : Int) < (l.length : Int) := by omega
        have i3 : (i : Int) ≤ (l.length : Int) := by omega
        have q1 : decide (x < n) = false := decide_eq_false hlt
        have hmem := (Hat.out.1 hil).trans (by rw [hxx] : l.getD i 0 = n ↔ x = n)
        clear hil hx2 hxx hlt
        by_cases hxn : x = n
        · subst hxn
          have hm := hmem.2 rfl
          have Hm := Aside0.mk hm
          have q2 : decide (x = x) = true := decide_eq_true rfl
          clear hm hmem
          replace i0 := eq_true i0
          replace i1 := eq_true i1
          replace i3 := eq_true i3
          go_wp2_with fail
          go_ret
          exact ⟨_, rfl, by rw [ins_old Hm.out]; exact HU.out.below HB.out, HB.out⟩
        have q2 : decide (x = n) = false := decide_eq_false hxn
        have Hm := Aside0.mk (fun h => hxn (hmem.1 h) : n ∉ l)
        clear hmem
        replace i0 := eq_true i0
        replace i1 := eq_true i1
        replace i3 := eq_true i3
        go_wp2_with (first
          | (at_builtin; refine appF (G := G) rfl (.tmp 41) (.tmp 43) rfl _ _ (l.take i) [n] rfl rfl HO3.out HRd.out (by have := Hl.out; simp; omega) ?_; intro v1 w3 ho1 hc1; have HT3 := Aside0.mk (tail.out w3 v1 ho1 hc1); have HO4 := Aside0.mk ho1; have HRc := Aside0.mk (Hc.out.1 w3 (HR.out.below HT3.out.2)); clear ho1 hc1)
          | (at_builtin; refine appF rfl (.tmp 45) (.tmp 48) rfl _ _ (l.take i ++ [n]) (l.drop i) rfl rfl HO4.out HRc.out (by have := Hl.out; simp; omega) ?_; intro v2 w4 ho2 hc2)
          | go_in)
        have hB4 := tail2 HT3.out.2 HT3.out.1 hc2
        go_ret
        exact ⟨_, rfl, by rw [Hc.out.2.1 Hm.out, show l.take i ++ n :: l.drop i = l.take i ++ [n] ++ l.drop i by simp]; exact Fr.of_own ho2 (fun k hk => hk.elim (fun h => Nat.le_trans Hbase.out (HT3.out.1 k h)) (fun h => by have h1 := HT3.out.2.size; have h2 := Hbase.out; have h3 := h.1; omega)), hB4⟩
      · have hnb : decide ((i : Int) < (l.length : Int)) = false := decide_eq_false (by omega)
        have hnc : decide (i < l.length) = false := decide_eq_false hil
        have i3 : (i : Int) ≤ (l.length : Int) := by have := Hl.out; omega
        have Hm := Aside0.mk (Hat.out.2 hil)
        clear hil
        replace i0 := eq_true i0
        replace i3 := eq_true i3
        go_wp2_with (first
          | (at_builtin; refine appF (G := G) rfl (.tmp 41) (.tmp 43) rfl _ _ (l.take i) [n] rfl rfl HO3.out HRd.out (by have := Hl.out; simp; omega) ?_; intro v1 w3 ho1 hc1; have HT3 := Aside0.mk (tail.out w3 v1 ho1 hc1); have HO4 := Aside0.mk ho1; have HRc := Aside0.mk (Hc.out.1 w3 (HR.out.below HT3.out.2)); clear ho1 hc1)
          | (at_builtin; refine appF rfl (.tmp 45) (.tmp 48) rfl _ _ (l.take i ++ [n]) (l.drop i) rfl rfl HO4.out HRc.out (by have := Hl.out; simp; omega) ?_; intro v2 w4 ho2 hc2)
          | go_in)
        have hB4 := tail2 HT3.out.2 HT3.out.1 hc2
        go_ret
        exact ⟨_, rfl, by rw [Hc.out.2.1 Hm.out, show l.take i ++ n :: l.drop i = l.take i ++ [n] ++ l.drop i by simp]; exact Fr.of_own ho2 (fun k hk => hk.elim (fun h => Nat.le_trans Hbase.out (HT3.out.1 k h)) (fun h => by have h1 := HT3.out.2.size; have h2 := Hbase.out; have h3 := h.1; omega)), hB4⟩
set_option maxHeartbeats 16000000 in
set_option maxRecDepth 100000 in
theorem rfieldsF_any (A A2 : Option Addr) (n c c2 : Nat) (E : List GE) (u : Value) (os : List Int) (w : World) (hE : RdE w A2 E) (hu : RdV w u os) (hl : E.length ≤ 1000) :
    Calls Tryz.prog 34 #[.agg #[.slice A n c, .slice A2 E.length c2], u] w fun e w' => ∃ v, e = .returned v ∧ Fr w.heap.size w' v (fieldsG E os) ∧ Below w.heap.size w w' := by
  have hal : Below w.heap.size w (w.alloc (.cells #[.slice A n c, .slice A2 E.length c2] 25)) := below_alloc (Below.refl _ _) _
  have Hb : Aside0 ((w.alloc (.cells #[.slice A n c, .slice A2 E.length c2] 25)).heap[w.heap.size]? = some (.cells #[.slice A n c, .slice A2 E.length c2] 25 (0, 0))) := ⟨heap_alloc_new _ _⟩
  have HE := Aside0.mk (hE.below hal)
  have HU := Aside0.mk (hu.below hal)
  have Hl := Aside0.mk hl
  have Hal := Aside0.mk hal
  obtain ⟨A3, c3, rfl, hc3, hr3⟩ := hu
  obtain ⟨nE, hnE⟩ : ∃ n, E.length = n := ⟨_, rfl⟩
  obtain ⟨n3, hn3⟩ : ∃ n, os.length = n := ⟨_, rfl⟩
  have Hn := Aside0.mk (And.intro hnE hn3)
  obtain ⟨W, hW⟩ : ∃ W, w.alloc (.cells #[.slice A n c, .slice A2 E.length c2] 25) = W := ⟨_, rfl⟩
  rw [hW] at Hb HE HU Hal
  rw [hnE] at hW Hb ⊢
  rw [hn3] at HU ⊢
  clear hal hE hl hc3 hr3 hnE hn3
  go_enter Tryz.func34, Tryz.ntmps34
  go_wp2_with fail
  obtain ⟨g, hg⟩ : ∃ g, w.heap.size = g := ⟨_, rfl⟩
  have Hg := Aside0.mk hg
  rw [hg] at Hb
  simp only [hg]
  clear hW hg
  go_loopw [5, 6] (fun V I wr => ∃ i : Nat, I = .int .i64 (i : Int) ∧ i ≤ nE ∧ Aside0 (Fr w.heap.size wr V (fieldsG (E.take i) os)) ∧ Aside0 (Below W.heap.size W wr)) (fun _ I _ => nE - (intOf I).toNat)
  case atStart => exact ⟨0, rfl, Nat.zero_le _, ⟨by rw [List.take_zero]; exact Fr.nil _ _⟩, ⟨Below.refl _ _⟩⟩
  case round =>
    obtain ⟨i, rfl, hi, HV, HB⟩ := hrel
    have hb := Ow.blk_below Hb.out HB.out
    have g0 : wr.cell? ⟨g, 0, none⟩ = some (.slice A n c) := blk_cellD hb 0 _ rfl
    have g1 : wr.cell? ⟨g, 1, none⟩ = some (.slice A2 nE c2) := blk_cellD hb 1 _ rfl
    clear hb
    by_cases hin : i < nE
    · have hnb : decide ((i : Int) < (nE : Int)) = true := decide_eq_true (by omega)
      have hnc : decide (i < nE) = true := decide_eq_true hin
      have hil : i < E.length := by rw [Hn.out.1]; exact hin
      obtain ⟨ad, rfl, e0, e1, e2⟩ := (HE.out.below HB.out).at_ i hil
      obtain ⟨⟨ea, ef, ez⟩, hee⟩ : ∃ e, E.getD i (0, 0, 0) = e := ⟨_, rfl⟩
      rw [hee] at e0 e1 e2
      have i0 : 0 ≤ (i : Int) := by omega
      have i1 : (i : Int) < (nE : Int) := by omega
      have i2 : (i : Int) ≤ 1000000 := by have := Hl.out; have := Hn.out.1; omega
      have Hin := Aside0.mk (And.intro hin (And.intro hil hee))
      have HA1 := Aside0.mk (has_any _ os ea wr (by have h := HU.out.below HB.out; exact h))
      have HcA := Aside0.mk (fun (w1 : World) (hb : Below wr.heap.size wr w1) => And.intro (cell_bel hb e1) (And.intro (cell_bel hb e2) (And.intro (cell_bel hb g0) (cell_bel hb g1))))
      have HN := Aside0.mk (fun (w1 : World) (hb : Below wr.heap.size wr w1) (x : Int) => numberF_any w.heap.size u5 _ x w1 (HV.out.below hb) (by have h1 := Hal.out.size; have h2 := HB.out.size; have h3 := hb.size; omega) (srt_fieldsG _ _) (by have h1 := fieldsT_len (E.take i) os; have h2 := List.length_take_le i E; have := Hl.out; omega))
      clear hin hi hil hee
      replace i0 := eq_true i0
      replace i1 := eq_true i1
      by_cases h0 : os = []
      · have hz : n3 = 0 := by rw [← Hn.out.2, h0]; rfl
        have z1 : decide ((n3 : Int) = 0) = true := decide_eq_true (by omega)
        subst hz
        have Hst := Aside0.mk (fieldsT_more Hin.out.2.1 Hin.out.2.2 (.inl h0))
        have HNx := Aside0.mk (HN.out wr (Below.refl _ _) ef)
        go_wp2_with fail
        refine HNx.out.mono ?_
        rintro e w2 ⟨v2, rfl, r1, r2⟩
        rw [← Hst.out] at r1
        have HV2 := Aside0.mk r1
        have HB2 := Aside0.mk (bel_trans HB.out (bel_trans (Below.refl _ _) r2))
        clear r1 r2
        go_wp2_with fail
        go_roundw
        case rel => exact ⟨i + 1, by go_num, Hin.out.1, HV2, HB2⟩
        case measure => have := Hin.out.1; simp [intOf]; omega
      · have hz : n3 ≠ 0 := by rw [← Hn.out.2]; exact fun e => h0 (List.eq_nil_of_length_eq_zero e)
        have z1 : decide ((n3 : Int) = 0) = false := decide_eq_false (by omega)
        have z2 : ¬ (n3 : Int) = 0 := by omega
        have z3 : ((n3 : Int) == 0) = false := by simpa using z2
        have Hz := Aside0.mk h0
        clear h0
        go_wp2_with fail
        refine HA1.out.mono ?_
        rintro e w1 ⟨rfl, r1⟩
        clear e0 e1 e2 g0 g1 HA1
        have HB3 := Aside0.mk r1
        obtain ⟨e1, e2, g0, g1⟩ := HcA.out w1 r1
        clear r1
        by_cases hea : ea ∈ os
        · have d1 : decide (ea ∈ os) = true := decide_eq_true hea
          rw [d1]
          have Hst := Aside0.mk (fieldsT_more Hin.out.2.1 Hin.out.2.2 (.inr hea))
          have HNx := Aside0.mk (HN.out w1 HB3.out ef)
          go_wp2_with fail
          refine HNx.out.mono ?_
          rintro e w2 ⟨v2, rfl, r1, r2⟩
          rw [← Hst.out] at r1
          have HV2 := Aside0.mk r1
          have HB2 := Aside0.mk (bel_trans HB.out (bel_trans HB3.out r2))
          clear r1 r2
          go_wp2_with fail
          go_roundw
          case rel => exact ⟨i + 1, by go_num, Hin.out.1, HV2, HB2⟩
          case measure => have := Hin.out.1; simp [intOf]; omega
        · have d1 : decide (ea ∈ os) = false := decide_eq_false hea
          rw [d1]
          have Hst := Aside0.mk (fieldsT_skip Hin.out.2.1 Hin.out.2.2 (fun h => h.elim Hz.out hea))
          go_wp2_with fail
          go_roundw
          case rel => exact ⟨i + 1, by go_num, Hin.out.1, ⟨by rw [Hst.out]; exact HV.out.below HB3.out⟩, ⟨bel_trans HB.out HB3.out⟩⟩
          case measure => have := Hin.out.1; simp [intOf]; omega
    · have hnb : decide ((i : Int) < (nE : Int)) = false := decide_eq_false (by omega)
      have hnc : decide (i < nE) = false := decide_eq_false hin
      obtain rfl : i = nE := by omega
      have ht : E.take i = E := List.take_of_length_le (by rw [Hn.out.1]; exact Nat.le_refl _)
      rw [ht] at HV
      clear hin hi ht
      go_wp2_with fail
      go_ret
      exact ⟨_, rfl, HV.out, bel_trans Hal.out HB.out⟩

set_option maxHeartbeats 16000000 in
set_option maxRecDepth 100000 in
theorem rnextF_any (A A2 : Option Addr) (n c c2 : Nat) (E : List GE) (k : Int) (u : Value) (os : List Int) (w : World) (hE : RdE w A2 E) (hu : RdV w u os) (hl : E.length ≤ 1000) :
    Calls Tryz.prog 42 #[.agg #[.slice A n c, .slice A2 E.length c2], .int .i64 k, u] w fun e w' => ∃ v, e = .returned v ∧ Fr w.heap.size w' v (nextG E k os) ∧ Below w.heap.size w w' := by
  have hal : Below w.heap.size w (w.alloc (.cells #[.slice A n c, .slice A2 E.length c2] 25)) := below_alloc (Below.refl _ _) _
  have Hb : Aside0 ((w.alloc (.cells #[.slice A n c, .slice A2 E.length c2] 25)).heap[w.heap.size]? = some (.cells #[.slice A n c, .slice A2 E.length c2] 25 (0, 0))) := ⟨heap_alloc_new _ _⟩
  have HE := Aside0.mk (hE.below hal)
  have HU := Aside0.mk (hu.below hal)
  have Hl := Aside0.mk hl
  have Hal := Aside0.mk hal
  obtain ⟨A3, c3, rfl, hc3, hr3⟩ := hu
  obtain ⟨nE, hnE⟩ : ∃ n, E.length = n := ⟨_, rfl⟩
  obtain ⟨n3, hn3⟩ : ∃ n, os.length = n := ⟨_, rfl⟩
  have Hn := Aside0.mk (And.intro hnE hn3)
  obtain ⟨W, hW⟩ : ∃ W, w.alloc (.cells #[.slice A n c, .slice A2 E.length c2] 25) = W := ⟨_, rfl⟩
  rw [hW] at Hb HE HU Hal
  rw [hnE] at hW Hb ⊢
  rw [hn3] at HU ⊢
  clear hal hE hl hc3 hr3 hnE hn3
  go_enter Tryz.func42, Tryz.ntmps42
  go_wp2_with fail
  obtain ⟨g, hg⟩ : ∃ g, w.heap.size = g := ⟨_, rfl⟩
  have Hg := Aside0.mk hg
  rw [hg] at Hb
  simp only [hg]
  clear hW hg
  go_loopw [7, 8] (fun V I wr => ∃ i : Nat, I = .int .i64 (i : Int) ∧ i ≤ nE ∧ Aside0 (Fr w.heap.size wr V (nextG (E.take i) k os)) ∧ Aside0 (Below W.heap.size W wr)) (fun _ I _ => nE - (intOf I).toNat)
  case atStart => exact ⟨0, rfl, Nat.zero_le _, ⟨by rw [List.take_zero]; exact Fr.nil _ _⟩, ⟨Below.refl _ _⟩⟩
  case round =>
    obtain ⟨i, rfl, hi, HV, HB⟩ := hrel
    have hb := Ow.blk_below Hb.out HB.out
    have g0 : wr.cell? ⟨g, 0, none⟩ = some (.slice A n c) := blk_cellD hb 0 _ rfl
    have g1 : wr.cell? ⟨g, 1, none⟩ = some (.slice A2 nE c2) := blk_cellD hb 1 _ rfl
    clear hb
    by_cases hin : i < nE
    · have hnb : decide ((i : Int) < (nE : Int)) = true := decide_eq_true (by omega)
      have hnc : decide (i < nE) = true := decide_eq_true hin
      have hil : i < E.length := by rw [Hn.out.1]; exact hin
      obtain ⟨ad, rfl, e0, e1, e2⟩ := (HE.out.below HB.out).at_ i hil
      obtain ⟨⟨ea, ef, ez⟩, hee⟩ : ∃ e, E.getD i (0, 0, 0) = e := ⟨_, rfl⟩
      rw [hee] at e0 e1 e2
      have i0 : 0 ≤ (i : Int) := by omega
      have i1 : (i : Int) < (nE : Int) := by omega
      have i2 : (i : Int) ≤ 1000000 := by have := Hl.out; have := Hn.out.1; omega
      have Hin := Aside0.mk (And.intro hin (And.intro hil hee))
      have HA1 := Aside0.mk (has_any _ os ea wr (by have h := HU.out.below HB.out; exact h))
      have HcA := Aside0.mk (fun (w1 : World) (hb : Below wr.heap.size wr w1) => And.intro (cell_bel hb e1) (And.intro (cell_bel hb e2) (And.intro (cell_bel hb g0) (cell_bel hb g1))))
      have HN := Aside0.mk (fun (w1 : World) (hb : Below wr.heap.size wr w1) (x : Int) => numberF_any w.heap.size u7 _ x w1 (HV.out.below hb) (by have h1 := Hal.out.size; have h2 := HB.out.size; have h3 := hb.size; omega) (srt_nextG _ _ _) (by have h1 := next_len (E.take i) k os; have h2 := List.length_take_le i E; have := Hl.out; omega))
      clear hin hi hil hee
      replace i0 := eq_true i0
      replace i1 := eq_true i1
      by_cases hk : ef = k
      · have z1 : decide (ef = k) = true := decide_eq_true hk
        have Hk := Aside0.mk hk
        subst hk
        go_wp2_with fail
        refine HA1.out.mono ?_
        rintro e w1 ⟨rfl, r1⟩
        clear e0 e1 e2 g0 g1 HA1
        have HB3 := Aside0.mk r1
        obtain ⟨e1, e2, g0, g1⟩ := HcA.out w1 r1
        clear r1
        by_cases hea : ea ∈ os
        · have d1 : decide (ea ∈ os) = true := decide_eq_true hea
          rw [d1]
          have Hst := Aside0.mk (nextT_more Hin.out.2.1 Hin.out.2.2 ⟨rfl, hea⟩)
          have HNx := Aside0.mk (HN.out w1 HB3.out ez)
          go_wp2_with fail
          refine HNx.out.mono ?_
          rintro e w2 ⟨v2, rfl, r1, r2⟩
          rw [← Hst.out] at r1
          have HV2 := Aside0.mk r1
          have HB2 := Aside0.mk (bel_trans HB.out (bel_trans HB3.out r2))
          clear r1 r2
          go_wp2_with fail
          go_roundw
          case rel => exact ⟨i + 1, by go_num, Hin.out.1, HV2, HB2⟩
          case measure => have := Hin.out.1; simp [intOf]; omega
        · have d1 : decide (ea ∈ os) = false := decide_eq_false hea
          rw [d1]
          have Hst := Aside0.mk (nextT_skip (k := ef) Hin.out.2.1 Hin.out.2.2 (fun h => hea h.2))
          go_wp2_with fail
          go_roundw
          case rel => exact ⟨i + 1, by go_num, Hin.out.1, ⟨by rw [Hst.out]; exact HV.out.below HB3.out⟩, ⟨bel_trans HB.out HB3.out⟩⟩
          case measure => have := Hin.out.1; simp [intOf]; omega
      · have z1 : decide (ef = k) = false := decide_eq_false hk
        have z3 : (ef == k) = false := by simpa using hk
        have Hst := Aside0.mk (nextT_skip (k := k) (os := os) Hin.out.2.1 Hin.out.2.2 (fun h => hk h.1))
        go_wp2_with fail
        go_roundw
        case rel => exact ⟨i + 1, by go_num, Hin.out.1, ⟨by rw [Hst.out]; exact HV.out.below (Below.refl _ _)⟩, ⟨bel_trans HB.out (Below.refl _ _)⟩⟩
        case measure => have := Hin.out.1; simp [intOf]; omega
    · have hnb : decide ((i : Int) < (nE : Int)) = false := decide_eq_false (by omega)
      have hnc : decide (i < nE) = false := decide_eq_false hin
      obtain rfl : i = nE := by omega
      have ht : E.take i = E := List.take_of_length_le (by rw [Hn.out.1]; exact Nat.le_refl _)
      rw [ht] at HV
      clear hin hi ht
      go_wp2_with fail
      go_ret
      exact ⟨_, rfl, HV.out, bel_trans Hal.out HB.out⟩
end Go.Proofs.YtkpadjhdneiniaaGreatDoor.Tx
