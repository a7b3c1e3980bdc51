/- The document's Types. -/
import Derived.Test.YtfgonclaiphoeaaGreatDoorTc
namespace Go.Proofs.YtfgonclaiphoeaaGreatDoor.Tx
set_option linter.unusedVariables false
open Go.RowKit Go.Proofs.YtfgonclaiphoeaaGreatDoorW.PrintWords Go.Proofs.YtfgonclaiphoeaaGreatDoorW.PrintLast Go.Proofs.YtfgonclaiphoeaaGreatDoorW.PrintMore
open Go.Proofs.YtfgonclaiphoeaaGreatDoor.Base Go.Proofs.YtfgonclaiphoeaaGreatDoor.Map Go.Proofs.YtfgonclaiphoeaaGreatDoor.Sl Go.Proofs.YtfgonclaiphoeaaGreatDoor.Ow Go.Proofs.YtfgonclaiphoeaaGreatDoor.Se Go.Proofs.YtfgonclaiphoeaaGreatDoor.Gr

/-! plain -/
/-- how many at the head are below t -/
def bS (S : List ByteArray) (t : ByteArray) : Nat := (S.takeWhile fun s => decide (toL s < toL t)).length
theorem bS_le (S : List ByteArray) (t : ByteArray) : bS S t ≤ S.length := by
  unfold bS
  induction S with
  | nil => simp
  | cons a S ih =>
    rw [List.takeWhile_cons]
    split
    · simp only [List.length_cons]; omega
    · simp
theorem bS_lt : ∀ (S : List ByteArray) (t : ByteArray) (j : Nat), j < S.length → (j < bS S t → toL (S.getD j ByteArray.empty) < toL t) ∧ (j = bS S t → ¬ toL (S.getD j ByteArray.empty) < toL t)
  | [], t, j, h => by simp at h
  | a :: S, t, j, h => by
    unfold bS
    rw [List.takeWhile_cons]
    by_cases ha : toL a < toL t
    · simp only [ha, decide_true, if_true, List.length_cons]
      cases j with
      | zero => exact ⟨fun _ => by simpa using ha, fun e => by omega⟩
      | succ j =>
        have ih := bS_lt S t j (by simp at h; omega)
        simp only [List.getD_cons_succ]
        exact ⟨fun e => ih.1 (by unfold bS; omega), fun e => ih.2 (by unfold bS; omega)⟩
    · simp only [ha, decide_false, Bool.false_eq_true, if_false, List.length_nil]
      exact ⟨fun e => by omega, fun e => by subst e; simpa using ha⟩
theorem take_lt (S : List ByteArray) (t : ByteArray) : ∀ x ∈ S.take (bS S t), toL x < toL t := by
  intro x hx
  obtain ⟨j, hj, rfl⟩ := List.getElem_of_mem hx
  have hb := bS_le S t
  rw [List.length_take] at hj
  have := (bS_lt S t j (by omega)).1 (by omega)
  rw [List.getD_eq_getElem?_getD, List.getElem?_eq_getElem (by omega)] at this
  rw [List.getElem_take]; exact this
/-- put t in -/
def putS (S : List ByteArray) (t : ByteArray) : List ByteArray := S.take (bS S t) ++ [t] ++ S.drop (bS S t)
theorem putS_mem {S : List ByteArray} {t x : ByteArray} : x ∈ putS S t ↔ x ∈ S ∨ x = t := by
  unfold putS
  conv => rhs; rw [← List.take_append_drop (bS S t) S]
  simp only [List.mem_append, List.mem_singleton]
  constructor
  · rintro ((h | h) | h)
    · exact .inl (.inl h)
    · exact .inr h
    · exact .inl (.inr h)
  · rintro ((h | h) | h)
    · exact .inl (.inl h)
    · exact .inr h
    · exact .inl (.inr h)
theorem putS_srt {S : List ByteArray} {t : ByteArray} (hs : (S.map toL).Pairwise (· < ·)) (hn : ∀ h : bS S t < S.length, S[bS S t] ≠ t) : ((putS S t).map toL).Pairwise (· < ·) := by
  have hp : S.Pairwise fun a b => toL a < toL b := List.pairwise_map.1 hs
  refine List.pairwise_map.2 ?_
  have hd : ∀ x ∈ S.drop (bS S t), toL t < toL x := by
    intro x hx
    by_cases hb : bS S t < S.length
    · rw [List.drop_eq_getElem_cons hb] at hx
      have h1 : toL t < toL S[bS S t] := by
        have h2 := (bS_lt S t _ hb).2 rfl
        rw [List.getD_eq_getElem?_getD, List.getElem?_eq_getElem hb] at h2
        rcases List.le_iff_lt_or_eq.1 (List.not_lt.1 h2) with h3 | h3
        · exact h3
        · exact absurd (toL_inj h3).symm (hn hb)
      rcases List.mem_cons.1 hx with rfl | hx
      · exact h1
      · have hpd : (S.drop (bS S t)).Pairwise fun a b => toL a < toL b := List.Pairwise.drop hp
        rw [List.drop_eq_getElem_cons hb] at hpd
        exact List.lt_trans h1 ((List.pairwise_cons.1 hpd).1 x hx)
    · rw [List.drop_eq_nil_of_le (by omega)] at hx; cases hx
  unfold putS
  rw [List.append_assoc]
  refine List.pairwise_append.2 ⟨List.Pairwise.take hp, ?_, fun a ha b hb => ?_⟩
  · exact List.pairwise_cons.2 ⟨hd, List.Pairwise.drop hp⟩
  · rcases List.mem_cons.1 hb with rfl | hb
    · exact take_lt S _ a ha
    · exact List.lt_trans (take_lt S t a ha) (hd b hb)
theorem TypS.nil (T : List ByteArray) : TypS T [] [] := ⟨List.Pairwise.nil, fun x => by simp [typL], Nat.le_refl _⟩
theorem putS_len (S : List ByteArray) (t : ByteArray) : (putS S t).length = S.length + 1 := by
  have hb := bS_le S t
  unfold putS
  simp only [List.length_append, List.length_take, List.length_drop, List.length_singleton]
  omega
section
variable {T : List ByteArray} {os : List Int} {S : List ByteArray} {i : Nat} {o : Int}
theorem take_len1 (hi : i < os.length) : (os.take (i + 1)).length = (os.take i).length + 1 := by rw [List.length_take, List.length_take]; omega
theorem TypS.skip (h : TypS T (os.take i) S) (hi : i < os.length) (ho : os.getD i 0 = o) (hv : ¬ (0 ≤ o ∧ o < T.length)) : TypS T (os.take (i + 1)) S :=
  ⟨h.srt, fun x => by rw [typL_skip hi ho hv]; exact h.mem x, by rw [take_len1 hi]; exact Nat.le_succ_of_le h.len⟩
theorem TypS.old (h : TypS T (os.take i) S) (hi : i < os.length) (ho : os.getD i 0 = o) (hv : 0 ≤ o ∧ o < T.length) (hb : bS S (typeG T o) < S.length) (he : S[bS S (typeG T o)] = typeG T o) : TypS T (os.take (i + 1)) S :=
  ⟨h.srt, fun x => by
    rw [typL_more hi ho hv, List.mem_append, List.mem_singleton, ← h.mem x]
    exact ⟨.inl, fun h => h.elim id (fun e => e ▸ he ▸ List.getElem_mem hb)⟩, by rw [take_len1 hi]; exact Nat.le_succ_of_le h.len⟩
theorem TypS.more (h : TypS T (os.take i) S) (hi : i < os.length) (ho : os.getD i 0 = o) (hv : 0 ≤ o ∧ o < T.length) (hn : ∀ h : bS S (typeG T o) < S.length, S[bS S (typeG T o)] ≠ typeG T o) : TypS T (os.take (i + 1)) (putS S (typeG T o)) :=
  ⟨putS_srt h.srt hn, fun x => by rw [typL_more hi ho hv, List.mem_append, List.mem_singleton, putS_mem, h.mem x], by
    rw [take_len1 hi, putS_len]
    exact Nat.succ_le_succ h.len⟩
theorem TypS.old2 (h : TypS T (os.take i) S) (hi : i < os.length) (ho : os.getD i 0 = o) (hv : 0 ≤ o ∧ o < T.length) {t : ByteArray} (ht : typeG T o = t) {b : Nat} (hb : bS S t = b) : b < S.length → S.getD b ByteArray.empty = t → TypS T (os.take (i + 1)) S := fun h1 h2 => by
  subst ht; subst hb
  rw [List.getD_eq_getElem?_getD, List.getElem?_eq_getElem h1] at h2
  exact h.old hi ho hv h1 h2
theorem TypS.more2 (h : TypS T (os.take i) S) (hi : i < os.length) (ho : os.getD i 0 = o) (hv : 0 ≤ o ∧ o < T.length) {t : ByteArray} (ht : typeG T o = t) {b : Nat} (hb : bS S t = b) : (b < S.length → S.getD b ByteArray.empty ≠ t) → TypS T (os.take (i + 1)) (S.take b ++ [t] ++ S.drop b) := fun h2 => by
  subst ht; subst hb
  exact h.more hi ho hv (fun h1 e => h2 h1 (by rw [List.getD_eq_getElem?_getD, List.getElem?_eq_getElem h1]; exact e))
end

theorem less_eq : ∀ (x y : List UInt8), Op.bytesLess x y = decide (x < y)
  | [], [] => by simp [Op.bytesLess]
  | _ :: _, [] => by simp [Op.bytesLess]
  | [], _ :: _ => by simp [Op.bytesLess]
  | a :: x, b :: y => by
    have ih := less_eq x y
    unfold Op.bytesLess
    rw [ih, Bool.eq_iff_iff]
    simp only [Bool.or_eq_true, Bool.and_eq_true, decide_eq_true_eq, beq_iff_eq, List.cons_lt_cons_iff]
theorem less_true {s t : ByteArray} (h : toL s < toL t) : Op.bytesLess s.toList t.toList = true := by
  rw [less_eq, ByteArray.toList_eq, ByteArray.toList_eq]; exact decide_eq_true h
theorem less_false {s t : ByteArray} (h : ¬ toL s < toL t) : Op.bytesLess s.toList t.toList = false := by
  rw [less_eq, ByteArray.toList_eq, ByteArray.toList_eq]; exact decide_eq_false h
theorem eq_true' {s t : ByteArray} (h : s = t) : (s.toList == t.toList) = true := by subst h; simp
theorem eq_false' {s t : ByteArray} (h : s ≠ t) : (s.toList == t.toList) = false := by
  rw [ByteArray.toList_eq, ByteArray.toList_eq]
  simp only [beq_eq_false_iff_ne, ne_eq]
  exact fun e => h (toL_inj e)

/-! the walk -/
set_option maxHeartbeats 16000000 in
set_option maxRecDepth 100000 in
theorem rtypes_any (A A2 : Option Addr) (c n2 c2 : Nat) (T : List ByteArray) (u : Value) (os : List Int) (w : World) (hT : RdT w A T) (hu : RdV w u os) (hl : T.length ≤ 1000000 ∧ os.length ≤ 1000000) :
    Calls Tryz.prog 34 #[.agg #[.slice A T.length c, .slice A2 n2 c2], u] w fun e w' => ∃ v S, e = .returned v ∧ RdS w' v S ∧ TypS T os S ∧ Below w.heap.size w w' := by
  have hal : Below w.heap.size w (w.alloc (.cells #[.slice A T.length c, .slice A2 n2 c2] 25)) := below_alloc (Below.refl _ _) _
  have Hb : Aside0 ((w.alloc (.cells #[.slice A T.length c, .slice A2 n2 c2] 25)).heap[w.heap.size]? = some (.cells #[.slice A T.length c, .slice A2 n2 c2] 25 (0, 0))) := ⟨heap_alloc_new _ _⟩
  have HT := Aside0.mk (hT.below hal)
  have HU := Aside0.mk (hu.below hal)
  have Hl := Aside0.mk hl
  have Hal := Aside0.mk hal
  obtain ⟨A3, c3, rfl, hc3, hr3⟩ := hu
  obtain ⟨nT, hnT⟩ : ∃ n, T.length = n := ⟨_, rfl⟩
  obtain ⟨n3, hn3⟩ : ∃ n, os.length = n := ⟨_, rfl⟩
  have Hn := Aside0.mk (And.intro hnT hn3)
  obtain ⟨W, hW⟩ : ∃ W, w.alloc (.cells #[.slice A T.length c, .slice A2 n2 c2] 25) = W := ⟨_, rfl⟩
  rw [hW] at Hb HT HU Hal
  rw [hnT] at hW Hb ⊢
  rw [hn3]
  clear hal hT hl hc3 hr3 hnT hn3
  go_enter Tryz.func34, Tryz.ntmps34
  go_wp2_with fail
  obtain ⟨g, hg⟩ : ∃ g, w.heap.size = g := ⟨_, rfl⟩
  have Hg := Aside0.mk hg
  rw [hg] at Hb
  simp only [hg]
  clear hW hg
  go_loopw [5, 6] (fun V I wr => ∃ (i : Nat) (S : List ByteArray), I = .int .i64 (i : Int) ∧ i ≤ n3 ∧ Aside0 (RdS wr V S) ∧ Aside0 (TypS T (os.take i) S) ∧ Aside0 (Below W.heap.size W wr)) (fun _ I _ => n3 - (intOf I).toNat)
  case atStart => exact ⟨0, [], rfl, Nat.zero_le _, ⟨RdS.nil W⟩, ⟨by rw [List.take_zero]; exact TypS.nil T⟩, ⟨Below.refl _ _⟩⟩
  case round =>
    obtain ⟨i, S, rfl, hi, HV, HS, HB⟩ := hrel
    have hb := Ow.blk_below Hb.out HB.out
    have g0 : wr.cell? ⟨g, 0, none⟩ = some (.slice A nT c) := Rf.blk_cellD hb 0 _ rfl
    have Hbr := Aside0.mk hb
    clear hb
    by_cases hin : i < n3
    · have hnb : decide ((i : Int) < (n3 : Int)) = true := decide_eq_true (by omega)
      have hnc : decide (i < n3) = true := decide_eq_true hin
      have hil : i < os.length := by rw [Hn.out.2]; exact hin
      obtain ⟨A4, c4, e4, _, hr4⟩ := HU.out.below HB.out
      injection e4 with e4a e4b e4c
      obtain ⟨ad, had, hx⟩ := hr4.at_ (i : Int) (by omega) (by omega)
      have had2 := e4a.trans had
      clear e4a e4b e4c hr4 had
      subst had2
      have hx : wr.cell? (ad.add i) = some (.int .i64 (os.getD i 0)) := by simpa [rd] using hx
      obtain ⟨x, hxx⟩ : ∃ x, os.getD i 0 = x := ⟨_, rfl⟩
      rw [hxx] at hx
      have i0 : 0 ≤ (i : Int) := by omega
      have i1 : (i : Int) < (n3 : Int) := by omega
      have i2 : (i : Int) ≤ 1000000 := by have := Hl.out; have := Hn.out.2; omega
      have Hin := Aside0.mk (And.intro hin (And.intro hil hxx))
      clear hin hi hil hxx
      replace i0 := eq_true i0
      replace i1 := eq_true i1
      by_cases hv : 0 ≤ x ∧ x < (T.length : Int)
      · obtain ⟨m, rfl⟩ := Int.eq_ofNat_of_zero_le hv.1
        obtain ⟨adT, rfl, et⟩ := (HT.out.below HB.out).at_ m (by omega)
        have ety : typeG T (m : Int) = T.getD m ByteArray.empty := by unfold typeG; rw [if_pos hv]; simp
        obtain ⟨t, ht⟩ : ∃ t, T.getD m ByteArray.empty = t := ⟨_, rfl⟩
        obtain ⟨b, hb⟩ : ∃ b, bS S t = b := ⟨_, rfl⟩
        have Hol := Aside0.mk (HS.out.old2 Hin.out.2.1 Hin.out.2.2 hv (ety.trans ht) hb)
        have Hmo := Aside0.mk (HS.out.more2 Hin.out.2.1 Hin.out.2.2 hv (ety.trans ht) hb)
        have Hbb := Aside0.mk hb
        clear hb
        rw [ht] at et
        rw [Hn.out.1] at hv
        have m0 : 0 ≤ (m : Int) := by omega
        have m1 : (m : Int) < (nT : Int) := by omega
        have q0 : decide ((m : Int) < 0) = false := decide_eq_false (by omega)
        have q1 : decide ((m : Int) ≥ (nT : Int)) = false := decide_eq_false (by omega)
        have q2 : ¬ (m : Int) < 0 := by omega
        have q3 : ¬ (nT : Int) ≤ (m : Int) := by omega
        clear hv ety ht
        replace m0 := eq_true m0
        replace m1 := eq_true m1
        go_wp2_with fail
        go_region
        go_wp2_with fail
        go_region
        obtain ⟨AS, cS, rfl, hcS, hrS⟩ := HV.out
        have hdr : Below wr.heap.size wr wr.drew.drew := below_drew (below_drew (Below.refl _ _))
        have HrS := Aside0.mk (hrS.below hdr)
        have HBd := Aside0.mk (bel_trans HB.out hdr)
        have hb := Hbb.out
        have hbl := bS_le S t
        have hblt := bS_lt S t
        have HcS := Aside0.mk (And.intro hcS (And.intro (cutS_from AS cS S (b : Int) (by omega) (by rw [← hb]; omega) hcS) (cutS_to AS cS S (b : Int) (by omega) (by rw [← hb]; omega) hcS)))
        have HSl := Aside0.mk (show S.length ≤ 1000000 by have h1 := HS.out.len; have h2 := List.length_take_le i os; have := Hl.out.2; omega)
        rw [hb] at hbl hblt
        obtain ⟨mS, hmS⟩ : ∃ m, S.length = m := ⟨_, rfl⟩
        have HmS := Aside0.mk (And.intro hmS (And.intro hbl hblt))
        rw [hmS]
        clear hrS hcS hb hbl hblt hmS HV HS g0 et hx
        generalize wr.drew.drew = wx at *
        clear hdr
        go_wp2_with fail
        go_loopw [8] (fun K wz => ∃ k : Nat, K = .int .i64 (k : Int) ∧ k ≤ b ∧ Aside0 (Below wx.heap.size wx wz)) (fun K _ => b - (intOf K).toNat)
        case atStart => exact ⟨0, rfl, Nat.zero_le _, ⟨Below.refl _ _⟩⟩
        case round =>
          obtain ⟨k, rfl, hk, HBk⟩ := hrel
          by_cases hkm : k < mS
          · have hnb : decide ((k : Int) < (mS : Int)) = true := decide_eq_true (by omega)
            have hnc : decide (k < mS) = true := decide_eq_true hkm
            have hkl : k < S.length := by rw [HmS.out.1]; exact hkm
            obtain ⟨adS, rfl, es⟩ := (HrS.out.below HBk.out).at_ k hkl
            have hlt := HmS.out.2.2 k hkl
            obtain ⟨s, hss⟩ : ∃ s, S.getD k ByteArray.empty = s := ⟨_, rfl⟩
            rw [hss] at es hlt
            have k0 : 0 ≤ (k : Int) := by omega
            have k1 : (k : Int) < (mS : Int) := by omega
            have k2 : (k : Int) ≤ 1000000 := by have := HSl.out; have := HmS.out.1; omega
            replace k0 := eq_true k0
            replace k1 := eq_true k1
            by_cases hkb : k < b
            · have h1 := less_true (hlt.1 hkb)
              have Hkb := Aside0.mk hkb
              clear hk hkm hkl hlt hss hkb
              go_wp2_with fail
              go_roundw
              case rel => exact ⟨k + 1, by go_num, Hkb.out, HBk⟩
              case measure => have := Hkb.out; simp [intOf]; omega
            · obtain rfl : k = b := by omega
              have h1 := less_false (hlt.2 rfl)
              by_cases hst : s = t
              · have h2 := eq_true' hst
                have Hol2 := Aside0.mk (Hol.out hkl (hss.trans hst))
                have HVr := Aside0.mk (show RdS wr (.slice (some adS) S.length cS) S from ⟨_, _, rfl, HcS.out.1, HrS.out.below HBk.out⟩)
                rw [HmS.out.1] at HVr
                clear hk hkm hkl hlt hss hkb hst
                go_wp2_with fail
                go_roundw
                case rel => exact ⟨i + 1, S, by go_num, Hin.out.1, HVr, Hol2, ⟨bel_trans HBd.out HBk.out⟩⟩
                case measure => have := Hin.out.1; simp [intOf]; omega
              · have h2 := eq_false' hst
                have HNE := Aside0.mk (fun (_ : k < S.length) (e : S.getD k ByteArray.empty = t) => hst (hss.symm.trans e))
                clear hk hkm hkl hlt hss hkb hst
                have HE := Aside0.mk (fun (w4 : World) (v : Value) (G : Nat → Prop) (h : OwS w4 G v (S.take k ++ [t] ++ S.drop k)) => h.toV)
                obtain ⟨hc, ⟨A', c', cutF, cutFR⟩, ⟨cutT, cutTR⟩⟩ := HcS.out
                rw [Int.toNat_natCast] at cutF cutFR cutT cutTR
                obtain ⟨mt, hmt⟩ : ∃ m, (S.take k).length = m := ⟨_, rfl⟩
                obtain ⟨md, hmd⟩ : ∃ m, (S.drop k).length = m := ⟨_, rfl⟩
                rw [hmt] at cutT cutTR
                rw [hmd] at cutF cutFR
                rw [HmS.out.1] at cutT cutF
                have Hld := Aside0.mk (show (S.take k).length + (S.drop k).length ≤ 1000000 by have := HSl.out; rw [List.length_take, List.length_drop]; omega)
                have HcR := Aside0.mk (And.intro cutFR cutTR)
                clear hc cutFR cutTR hmt hmd
                have b0 : 0 ≤ (k : Int) := by omega
                have b1 : (k : Int) ≤ (mS : Int) := by have := HmS.out.2.1; have := HmS.out.1; omega
                replace b0 := eq_true b0
                replace b1 := eq_true b1
                have HrT := Aside0.mk (HcR.out.2 wr (HrS.out.below HBk.out))
                have HO0 := Aside0.mk (OwS.nil wr (fun _ => False))
                have HWr := Aside0.mk (bel_trans HBd.out HBk.out)
                go_wp2_with (first
                  | (at_builtin; refine appS (G := fun _ => False) rfl (.tmp 65) (.tmp 68) rfl _ _ [] (S.take k) rfl rfl HO0.out HrT.out (by have := Hld.out; simp at this ⊢; omega) ?_; intro v1 wa ho1 hc1; have HBa := Aside0.mk (chg_own (w := W) HWr.out (G := fun _ => False) (fun k h => h.elim) hc1); have HBa0 := Aside0.mk (chg_own (w := wr) (Below.refl _ _) (G := fun _ => False) (fun k h => h.elim) hc1); have HO1 := Aside0.mk (ho1.below (below_alloc (Below.refl wa.heap.size wa) (.cells #[.string t] 9))); have Ht1 : Aside0 (RdS (wa.alloc (.cells #[.string t] 9)) (.slice (some ⟨wa.heap.size, 0, none⟩) 1 1) [t]) := ⟨RdS.lit (l := [t]) (heap_alloc_new _ _) rfl (by simp)⟩; have HG1 := Aside0.mk (ext_own (w := wr) (w2 := wa) (Below.refl _ _) (G := fun _ => False) (fun k h => h.elim)); clear ho1 hc1)
                  | (at_builtin; refine appS rfl (.tmp 70) (.tmp 72) rfl _ _ ([] ++ S.take k) [t] rfl rfl HO1.out Ht1.out (by have := Hld.out; simp at this ⊢; omega) ?_; intro v2 wb ho2 hc2; have HBb0 := Aside0.mk (chg_own (w := wr) (bel_trans HBa0.out (below_alloc (Below.refl wa.heap.size wa) (.cells #[.string t] 9))) HG1.out hc2); have HG2 := Aside0.mk (ext_own (w := wr) (w2 := wb) (bel_trans HBa0.out (below_alloc (Below.refl wa.heap.size wa) (.cells #[.string t] 9))) HG1.out); have HO2 := Aside0.mk ho2; have HrD := Aside0.mk (HcR.out.1 wb (HrS.out.below (bel_trans HBk.out HBb0.out))); clear ho2 hc2)
                  | (at_builtin; refine appS rfl (.tmp 74) (.tmp 77) rfl _ _ ([] ++ S.take k ++ [t]) (S.drop k) rfl rfl HO2.out HrD.out (by have := Hld.out; simp at this ⊢; omega) ?_; intro v3 wc ho3 hc3; have HBc0 := Aside0.mk (chg_own (w := wr) HBb0.out HG2.out hc3); have HV3 := Aside0.mk (HE.out wc v3 _ ho3); clear ho3 hc3)
                  | go_in)
                go_roundw
                case rel => exact ⟨i + 1, _, by go_num, Hin.out.1, HV3, ⟨Hmo.out HNE.out⟩, ⟨bel_trans HWr.out HBc0.out⟩⟩
                case measure => have := Hin.out.1; simp [intOf]; omega
          · have hnb : decide ((k : Int) < (mS : Int)) = false := decide_eq_false (by omega)
            have hnc : decide (k < mS) = false := decide_eq_false hkm
            have hkb2 : k = b := by have := HmS.out.2.1; have := HmS.out.1; omega
            subst hkb2
            have HNE := Aside0.mk (fun (h : k < S.length) (_ : S.getD k ByteArray.empty = t) => hkm (by rw [← HmS.out.1]; exact h))
            clear hk hkm
            have HE := Aside0.mk (fun (w4 : World) (v : Value) (G : Nat → Prop) (h : OwS w4 G v (S.take k ++ [t] ++ S.drop k)) => h.toV)
            obtain ⟨hc, ⟨A', c', cutF, cutFR⟩, ⟨cutT, cutTR⟩⟩ := HcS.out
            rw [Int.toNat_natCast] at cutF cutFR cutT cutTR
            obtain ⟨mt, hmt⟩ : ∃ m, (S.take k).length = m := ⟨_, rfl⟩
            obtain ⟨md, hmd⟩ : ∃ m, (S.drop k).length = m := ⟨_, rfl⟩
            rw [hmt] at cutT cutTR
            rw [hmd] at cutF cutFR
            rw [HmS.out.1] at cutT cutF
            have Hld := Aside0.mk (show (S.take k).length + (S.drop k).length ≤ 1000000 by have := HSl.out; rw [List.length_take, List.length_drop]; omega)
            have HcR := Aside0.mk (And.intro cutFR cutTR)
            clear hc cutFR cutTR hmt hmd
            have b0 : 0 ≤ (k : Int) := by omega
            have b1 : (k : Int) ≤ (mS : Int) := by have := HmS.out.2.1; have := HmS.out.1; omega
            replace b0 := eq_true b0
            replace b1 := eq_true b1
            have HrT := Aside0.mk (HcR.out.2 wr (HrS.out.below HBk.out))
            have HO0 := Aside0.mk (OwS.nil wr (fun _ => False))
            have HWr := Aside0.mk (bel_trans HBd.out HBk.out)
            go_wp2_with (first
              | (at_builtin; refine appS (G := fun _ => False) rfl (.tmp 65) (.tmp 68) rfl _ _ [] (S.take k) rfl rfl HO0.out HrT.out (by have := Hld.out; simp at this ⊢; omega) ?_; intro v1 wa ho1 hc1; have HBa := Aside0.mk (chg_own (w := W) HWr.out (G := fun _ => False) (fun k h => h.elim) hc1); have HBa0 := Aside0.mk (chg_own (w := wr) (Below.refl _ _) (G := fun _ => False) (fun k h => h.elim) hc1); have HO1 := Aside0.mk (ho1.below (below_alloc (Below.refl wa.heap.size wa) (.cells #[.string t] 9))); have Ht1 : Aside0 (RdS (wa.alloc (.cells #[.string t] 9)) (.slice (some ⟨wa.heap.size, 0, none⟩) 1 1) [t]) := ⟨RdS.lit (l := [t]) (heap_alloc_new _ _) rfl (by simp)⟩; have HG1 := Aside0.mk (ext_own (w := wr) (w2 := wa) (Below.refl _ _) (G := fun _ => False) (fun k h => h.elim)); clear ho1 hc1)
              | (at_builtin; refine appS rfl (.tmp 70) (.tmp 72) rfl _ _ ([] ++ S.take k) [t] rfl rfl HO1.out Ht1.out (by have := Hld.out; simp at this ⊢; omega) ?_; intro v2 wb ho2 hc2; have HBb0 := Aside0.mk (chg_own (w := wr) (bel_trans HBa0.out (below_alloc (Below.refl wa.heap.size wa) (.cells #[.string t] 9))) HG1.out hc2); have HG2 := Aside0.mk (ext_own (w := wr) (w2 := wb) (bel_trans HBa0.out (below_alloc (Below.refl wa.heap.size wa) (.cells #[.string t] 9))) HG1.out); have HO2 := Aside0.mk ho2; have HrD := Aside0.mk (HcR.out.1 wb (HrS.out.below (bel_trans HBk.out HBb0.out))); clear ho2 hc2)
              | (at_builtin; refine appS rfl (.tmp 74) (.tmp 77) rfl _ _ ([] ++ S.take k ++ [t]) (S.drop k) rfl rfl HO2.out HrD.out (by have := Hld.out; simp at this ⊢; omega) ?_; intro v3 wc ho3 hc3; have HBc0 := Aside0.mk (chg_own (w := wr) HBb0.out HG2.out hc3); have HV3 := Aside0.mk (HE.out wc v3 _ ho3); clear ho3 hc3)
              | go_in)
            go_roundw
            case rel => exact ⟨i + 1, _, by go_num, Hin.out.1, HV3, ⟨Hmo.out HNE.out⟩, ⟨bel_trans HWr.out HBc0.out⟩⟩
            case measure => have := Hin.out.1; simp [intOf]; omega
      · have HS2 := Aside0.mk (HS.out.skip Hin.out.2.1 Hin.out.2.2 hv)
        rw [Hn.out.1] at hv
        have hor : x < 0 ∨ (0 ≤ x ∧ (nT : Int) ≤ x) := by omega
        clear hv
        rcases hor with x0 | ⟨x0, x1⟩
        · have q0 : decide (x < 0) = true := decide_eq_true x0
          go_wp2_with fail
          go_region
          go_wp2_with fail
          go_roundw
          case rel => exact ⟨i + 1, _, by go_num, Hin.out.1, ⟨HV.out.below (below_drew (Below.refl _ _))⟩, HS2, ⟨below_drew HB.out⟩⟩
          case measure => have := Hin.out.1; simp [intOf]; omega
        · have q0 : decide (x < 0) = false := decide_eq_false (by omega)
          have q1 : decide (x ≥ (nT : Int)) = true := decide_eq_true (by omega)
          have q2 : ¬ x < 0 := by omega
          go_wp2_with fail
          go_region
          go_wp2_with fail
          go_roundw
          case rel => exact ⟨i + 1, _, by go_num, Hin.out.1, ⟨HV.out.below (below_drew (Below.refl _ _))⟩, HS2, ⟨below_drew HB.out⟩⟩
          case measure => have := Hin.out.1; simp [intOf]; omega
    · have hnb : decide ((i : Int) < (n3 : Int)) = false := decide_eq_false (by omega)
      have hnc : decide (i < n3) = false := decide_eq_false hin
      obtain rfl : i = n3 := by omega
      have ht : os.take i = os := List.take_of_length_le (by rw [Hn.out.2]; exact Nat.le_refl _)
      rw [ht] at HS
      clear hin hi ht
      go_wp2_with fail
      go_ret
      exact ⟨_, _, rfl, HV.out, HS.out, bel_trans Hal.out HB.out⟩
end Go.Proofs.YtfgonclaiphoeaaGreatDoor.Tx
