/- The document's graph: number (into a rising list). -/
import Derived.Test.YtkpadjhdneiniaaGreatDoorZa
namespace Go.Proofs.YtkpadjhdneiniaaGreatDoor.Rf
set_option linter.unusedVariables false
open Go.RowKit Go.Proofs.YtkpadjhdneiniaaGreatDoorW.PrintWords Go.Proofs.YtkpadjhdneiniaaGreatDoorW.PrintLast Go.Proofs.YtkpadjhdneiniaaGreatDoorW.PrintMore Go.Maps
open Go.Proofs.YtkpadjhdneiniaaGreatDoor.Base Go.Proofs.YtkpadjhdneiniaaGreatDoor.Map Go.Proofs.YtkpadjhdneiniaaGreatDoor.Sl Go.Proofs.YtkpadjhdneiniaaGreatDoor.Ow Go.Proofs.YtkpadjhdneiniaaGreatDoor.Se Go.Proofs.YtkpadjhdneiniaaGreatDoor.Gr

theorem mem_at {l : List Int} (h : Srt l) (n : Int) : (below l n < l.length → (n ∈ l ↔ l.getD (below l n) 0 = n)) ∧ (¬ below l n < l.length → n ∉ l) := by
  obtain ⟨h1, h2⟩ := take_below (n := n) h
  refine ⟨fun hb => ⟨fun hm => ?_, fun e => ?_⟩, fun hb hm => ?_⟩
  · have hd : l.drop (below l n) = l[below l n] :: l.drop (below l n + 1) := List.drop_eq_getElem_cons hb
    rw [List.getD_eq_getElem?_getD, List.getElem?_eq_getElem hb]
    show l[below l n] = n
    have ha : n ≤ l[below l n] := h2 _ (by rw [hd]; exact List.mem_cons_self ..)
    rw [← List.take_append_drop (below l n) l] at hm
    rcases List.mem_append.1 hm with hm | hm
    · exact absurd (h1 _ hm) (by omega)
    · have hsd : Srt (l.drop (below l n)) := List.Pairwise.drop h
      rw [hd] at hm hsd
      rcases List.mem_cons.1 hm with e | hm
      · exact e.symm
      · have := (List.pairwise_cons.1 hsd).1 n hm
        omega
  · rw [List.getD_eq_getElem?_getD, List.getElem?_eq_getElem hb] at e
    exact e ▸ List.getElem_mem hb
  · rw [← List.take_append_drop (below l n) l] at hm
    rcases List.mem_append.1 hm with hm | hm
    · exact absurd (h1 _ hm) (by omega)
    · rw [List.drop_eq_nil_of_le (by omega)] at hm; cases hm
set_option maxHeartbeats 8000000 in
set_option maxRecDepth 100000 in
theorem number_any (u : Value) (l : List Int) (n : Int) (w : World) (hu : RdV w u l) (hs : Srt l) (hl : l.length ≤ 1000000) :
    Calls Tryz.prog 71 #[u, .int .i64 n] w fun e w' => ∃ v, e = .returned v ∧ RdV w' v (ins l n) ∧ Below w.heap.size w w' := by
  have HU := Aside0.mk hu
  obtain ⟨A, c, rfl, hc, hr⟩ := hu
  have hb := below_le l n
  have hins : n ∉ l → ins l n = l.take (below l n) ++ n :: l.drop (below l n) := fun hm => ins_new hm
  have hat := mem_at hs n
  obtain ⟨b, hbb⟩ : ∃ b, below l n = b := ⟨_, rfl⟩
  rw [hbb] at hb hins hat
  have hlb : ∀ i, i < l.length → (l.getD i 0 < n ↔ i < b) := fun i hi => by rw [← hbb]; exact lt_below hs hi
  obtain ⟨A', c', hcut, hcutR⟩ := cut_from A c l (b : Int) (by omega) (by omega) hc
  rw [Int.toNat_natCast] at hcut hcutR
  obtain ⟨m, hmm⟩ : ∃ m, (l.drop b).length = m := ⟨_, rfl⟩
  rw [hmm] at hcut hcutR
  clear hmm
  have HR := Aside0.mk hr
  have Hc := Aside0.mk (And.intro hcutR (And.intro hins hlb))
  have Hl := Aside0.mk (And.intro hl hb)
  have Hat := Aside0.mk hat
  clear hr hc hs hl hb hbb hins hlb hcutR hat
  go_enter Tryz.func71, Tryz.ntmps71
  go_wp2_with fail
  go_loopw [5, 6] (fun V I wr => ∃ (i : Nat) (G : Nat → Prop), I = .int .i64 (i : Int) ∧ i ≤ b ∧ Aside0 (OwF wr G V (l.take i)) ∧ Aside0 (∀ k, G k → w.heap.size ≤ k) ∧ Aside0 (Below w.heap.size w wr)) (fun _ I _ => b - (intOf I).toNat)
  case atStart => exact ⟨0, fun _ => False, rfl, Nat.zero_le _, ⟨OwF.nil _ _⟩, ⟨fun k hk => hk.elim⟩, ⟨Below.refl _ _⟩⟩
  case round =>
    obtain ⟨i, G, rfl, hi, HO, HGb, HB⟩ := hrel
    by_cases hin : i < b
    · have hil : i < l.length := by have := Hl.out; omega
      have hnb : decide ((i : Int) < (l.length : Int)) = true := decide_eq_true (by omega)
      have hnc : decide (i < l.length) = true := decide_eq_true hil
      obtain ⟨ad, rfl, hx⟩ := (HR.out.below HB.out).at_ (i : Int) (by omega) (by omega)
      rw [Int.toNat_natCast] at hx
      have hx2 : rd l (i : Int) = l.getD i 0 := by simp [rd]
      have htk := take_get l i hil
      have hlt := (Hc.out.2.2 i hil).2 hin
      obtain ⟨x, hxx⟩ : ∃ x, l.getD i 0 = x := ⟨_, rfl⟩
      rw [hx2, hxx] at hx
      rw [hxx] at htk hlt
      have i0 : 0 ≤ (i : Int) := by omega
      have i1 : (i : Int) < (l.length : Int) := by omega
      have i2 : (i : Int) ≤ 1000000 := by have := Hl.out; omega
      have q1 : decide (x < n) = true := decide_eq_true hlt
      have Hin := Aside0.mk (And.intro hin (And.intro htk hil))
      clear hin hi hil hx2 hxx htk hlt
      replace i0 := eq_true i0
      replace i1 := eq_true i1
      have hal : Below wr.heap.size wr (wr.alloc (.cells #[.int .i64 x] 3)) := below_alloc (Below.refl _ _) _
      have HO3 := Aside0.mk (HO.out.below hal)
      have HRd : Aside0 (RdV (wr.alloc (.cells #[.int .i64 x] 3)) (.slice (some ⟨wr.heap.size, 0, none⟩) 1 1) [x]) := ⟨RdV.one (blk_cell (heap_alloc_new _ _) 0)⟩
      have HB3 := Aside0.mk (bel_trans HB.out hal)
      clear hal
      go_wp2_with (first | (at_builtin; refine appF (G := G) rfl (.tmp 19) (.tmp 24) rfl _ _ (l.take i) [x] rfl rfl HO3.out HRd.out (by have := Hl.out; have := Hin.out.2.2; simp; omega) ?_; intro v1 w3 ho1 hc1) | go_in)
      have hB2 : Below w.heap.size w w3 := ((Chg.of_below HB3.out (fun _ => False)).then_ hc1 (fun k hk => .inr (HGb.out k hk))).below (Nat.le_refl _) (fun k hk => hk.elim)
      have HB2 := Aside0.mk hB2
      have HG2 := Aside0.mk (show ∀ k, ext G (wr.alloc (.cells #[.int .i64 x] 3)) w3 k → w.heap.size ≤ k from fun k hk => hk.elim (HGb.out k) (fun h => by have h1 := h.1; have h2 := HB3.out.size; omega))
      have HO2 := Aside0.mk ho1
      clear ho1 hc1 hB2
      go_roundw
      case rel => exact ⟨i + 1, _, by go_num, Hin.out.1, ⟨by rw [Hin.out.2.1]; exact HO2.out⟩, HG2, HB2⟩
      case measure => have := Hin.out.1; simp [intOf]; omega
    · obtain rfl : i = b := by omega
      have HRw := Aside0.mk (HR.out.below HB.out)
      have tail : Aside0 (∀ w3 v1, OwF w3 (ext G (wr.alloc (.cells #[.int .i64 n] 3)) w3) v1 (l.take i ++ [n]) → Chg G (wr.alloc (.cells #[.int .i64 n] 3)) w3 → (∀ k, ext G (wr.alloc (.cells #[.int .i64 n] 3)) w3 k → w.heap.size ≤ k) ∧ Below w.heap.size w w3) := ⟨fun w3 v1 ho hc => by
        have hB3 := bel_trans HB.out (below_alloc (Below.refl wr.heap.size wr) (.cells #[.int .i64 n] 3))
        exact ⟨fun k hk => hk.elim (HGb.out k) (fun h => by have h1 := h.1; have h2 := hB3.size; omega), ((Chg.of_below hB3 (fun _ => False)).then_ hc (fun k hk => .inr (HGb.out k hk))).below (Nat.le_refl _) (fun k hk => hk.elim)⟩⟩
      have hal : Below wr.heap.size wr (wr.alloc (.cells #[.int .i64 n] 3)) := below_alloc (Below.refl _ _) _
      have HO3 := Aside0.mk (HO.out.below hal)
      have HRd : Aside0 (RdV (wr.alloc (.cells #[.int .i64 n] 3)) (.slice (some ⟨wr.heap.size, 0, none⟩) 1 1) [n]) := ⟨RdV.one (blk_cell (heap_alloc_new _ _) 0)⟩
      have i0 : 0 ≤ (i : Int) := by omega
      have i2 : (i : Int) ≤ 1000000 := by have := Hl.out; omega
      clear hal hi hin
      by_cases hil : i < l.length
      · have hnb : decide ((i : Int) < (l.length : Int)) = true := decide_eq_true (by omega)
        have hnc : decide (i < l.length) = true := decide_eq_true hil
        obtain ⟨ad, rfl, hx⟩ := HRw.out.at_ (i : Int) (by omega) (by omega)
        rw [Int.toNat_natCast] at hx
        have hx2 : rd l (i : Int) = l.getD i 0 := by simp [rd]
        have hlt : ¬ l.getD i 0 < n := fun h => by have := (Hc.out.2.2 i hil).1 h; omega
        obtain ⟨x, hxx⟩ : ∃ x, l.getD i 0 = x := ⟨_, rfl⟩
        rw [hx2, hxx] at hx
        rw [hxx] at hlt
        have i1 : (i : Int) < (l.length : Int) := by omega
        have i3 : (i : Int) ≤ (l.length : Int) := by omega
        have q1 : decide (x < n) = false := decide_eq_false hlt
        have hmem := (Hat.out.1 hil).trans (by rw [hxx] : l.getD i 0 = n ↔ x = n)
        clear hil hx2 hxx hlt
        by_cases hxn : x = n
        · subst hxn
          have hm := hmem.2 rfl
          have Hm := Aside0.mk hm
          have q2 : decide (x = x) = true := decide_eq_true rfl
          clear hm hmem
          replace i0 := eq_true i0
          replace i1 := eq_true i1
          replace i3 := eq_true i3
          go_wp2_with fail
          go_ret
          exact ⟨_, rfl, by rw [ins_old Hm.out]; exact HU.out.below HB.out, HB.out⟩
        have q2 : decide (x = n) = false := decide_eq_false hxn
        have Hm := Aside0.mk (fun h => hxn (hmem.1 h) : n ∉ l)
        clear hmem
        replace i0 := eq_true i0
        replace i1 := eq_true i1
        replace i3 := eq_true i3
        go_wp2_with (first
          | (at_builtin; refine appF (G := G) rfl (.tmp 41) (.tmp 43) rfl _ _ (l.take i) [n] rfl rfl HO3.out HRd.out (by have := Hl.out; simp; omega) ?_; intro v1 w3 ho1 hc1; have HT3 := Aside0.mk (tail.out w3 v1 ho1 hc1); have HO4 := Aside0.mk ho1; have HRc := Aside0.mk (Hc.out.1 w3 (HR.out.below HT3.out.2)); clear ho1 hc1)
          | (at_builtin; refine appF rfl (.tmp 45) (.tmp 48) rfl _ _ (l.take i ++ [n]) (l.drop i) rfl rfl HO4.out HRc.out (by have := Hl.out; simp; omega) ?_; intro v2 w4 ho2 hc2)
          | go_in)
        have hB4 := tail2 HT3.out.2 HT3.out.1 hc2
        go_ret
        exact ⟨_, rfl, by rw [Hc.out.2.1 Hm.out, show l.take i ++ n :: l.drop i = l.take i ++ [n] ++ l.drop i by simp]; exact ho2.toV, hB4⟩
      · have hnb : decide ((i : Int) < (l.length : Int)) = false := decide_eq_false (by omega)
        have hnc : decide (i < l.length) = false := decide_eq_false hil
        have i3 : (i : Int) ≤ (l.length : Int) := by have := Hl.out; omega
        have Hm := Aside0.mk (Hat.out.2 hil)
        clear hil
        replace i0 := eq_true i0
        replace i3 := eq_true i3
        go_wp2_with (first
          | (at_builtin; refine appF (G := G) rfl (.tmp 41) (.tmp 43) rfl _ _ (l.take i) [n] rfl rfl HO3.out HRd.out (by have := Hl.out; simp; omega) ?_; intro v1 w3 ho1 hc1; have HT3 := Aside0.mk (tail.out w3 v1 ho1 hc1); have HO4 := Aside0.mk ho1; have HRc := Aside0.mk (Hc.out.1 w3 (HR.out.below HT3.out.2)); clear ho1 hc1)
          | (at_builtin; refine appF rfl (.tmp 45) (.tmp 48) rfl _ _ (l.take i ++ [n]) (l.drop i) rfl rfl HO4.out HRc.out (by have := Hl.out; simp; omega) ?_; intro v2 w4 ho2 hc2)
          | go_in)
        have hB4 := tail2 HT3.out.2 HT3.out.1 hc2
        go_ret
        exact ⟨_, rfl, by rw [Hc.out.2.1 Hm.out, show l.take i ++ n :: l.drop i = l.take i ++ [n] ++ l.drop i by simp]; exact ho2.toV, hB4⟩
end Go.Proofs.YtkpadjhdneiniaaGreatDoor.Rf
