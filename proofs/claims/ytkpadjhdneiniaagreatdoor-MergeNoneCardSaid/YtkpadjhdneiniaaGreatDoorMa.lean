/- Ma: merge.Right; the document's Right, Finer (E1's Kb, Kg, Ki, turned). -/
import Derived.Test.YtkpadjhdneiniaaGreatDoorTe
import Derived.Test.YtkpadjhdneiniaaGreatDoorTa
import Derived.Test.YtkpadjhdneiniaaGreatDoorSt
import Derived.Test.YtkpadjhdneiniaaGreatDoorEk
import Derived.Test.YtkpadjhdneiniaaGreatDoorGg
/- Kb: merge.Right; slices.Equal of numbers. -/
section
namespace Go.Proofs.YtkpadjhdneiniaaGreatDoor.Sb
set_option linter.unusedVariables false
open Go.RowKit Go.Proofs.YtkpadjhdneiniaaGreatDoorW.PrintWords Go.Proofs.YtkpadjhdneiniaaGreatDoorW.PrintLast Go.Proofs.YtkpadjhdneiniaaGreatDoorW.PrintMore Go.Maps
open Go.Proofs.YtkpadjhdneiniaaGreatDoor.Base Go.Proofs.YtkpadjhdneiniaaGreatDoor.Map Go.Proofs.YtkpadjhdneiniaaGreatDoor.Sl Go.Proofs.YtkpadjhdneiniaaGreatDoor.Ow Go.Proofs.YtkpadjhdneiniaaGreatDoor.Se Go.Proofs.YtkpadjhdneiniaaGreatDoor.Gr Go.Proofs.YtkpadjhdneiniaaGreatDoor.Rf Go.Proofs.YtkpadjhdneiniaaGreatDoor.Tx Go.Proofs.YtkpadjhdneiniaaGreatDoor.St

theorem Tx_eq {s t : ByteArray} (h : s = t) : (s.toList == t.toList) = true := by subst h; simp
theorem Tx_ne {s t : ByteArray} (h : ¬ s = t) : (s.toList == t.toList) = false := by
  rw [ByteArray.toList_eq, ByteArray.toList_eq]
  simp only [beq_eq_false_iff_ne, ne_eq]
  exact fun e => h (toL_inj e)
/-- is an object's class right? -/
def OkM (T : List ByteArray) (tm : List Int) (i : Nat) : Prop := 0 ≤ cl tm i ∧ cl tm i ≤ (i : Int) ∧ tm.getD (cl tm i).toNat 0 = cl tm i ∧ typeG T (cl tm i) = typeG T (i : Int)
def RightM (T : List ByteArray) (tm : List Int) : Prop := tm.length = T.length ∧ ∀ i, i < tm.length → OkM T tm i
open Classical in
noncomputable instance (T : List ByteArray) (tm : List Int) : Decidable (RightM T tm) := Classical.propDecidable _
theorem RightM.hd {T : List ByteArray} {tm : List Int} (h : RightM T tm) : Hd T.length tm := ⟨h.1, fun i hi => by
  obtain ⟨h0, h1, h2, _⟩ := h.2 i (by rw [h.1]; exact hi)
  obtain ⟨k, hk⟩ := Int.eq_ofNat_of_zero_le h0
  refine ⟨k, hk, by omega, ?_⟩
  rw [hk] at h2
  exact h2⟩
set_option maxHeartbeats 8000000 in
set_option maxRecDepth 100000 in
theorem mright_any (p : Nat) (T : List ByteArray) (E : List GE) (u : Value) (tm : List Int) (w : World) (hG : GA w p T E) (hu : RdV w u tm) (hl : T.length ≤ 1000000) :
    Calls Tryz.prog 48 #[.pointer (some ⟨p, 0, none⟩), u] w fun e w' => e = .returned (.bool (decide (RightM T tm))) ∧ Below w.heap.size w w' := by
  have HG := Aside0.mk hG
  have HU := Aside0.mk hu
  have Hl := Aside0.mk hl
  obtain ⟨A, c, rfl, hc, hr⟩ := hu
  have HR := Aside0.mk hr
  obtain ⟨B, hB⟩ : ∃ B, decide (RightM T tm) = B := ⟨_, rfl⟩
  rw [hB]
  have HB := Aside0.mk hB
  have HLn := Aside0.mk (len_any p T E w hG)
  obtain ⟨n, hn⟩ : ∃ n, tm.length = n := ⟨_, rfl⟩
  obtain ⟨nT, hnT⟩ : ∃ n, T.length = n := ⟨_, rfl⟩
  have Hn := Aside0.mk (And.intro hn hnT)
  rw [hn]
  rw [hnT] at HLn
  have hmx := hr.max
  rw [hn] at hmx
  clear hG hl hc hr hB hn hnT
  by_cases hne : n = nT
  case neg =>
    have q1 : ((n : Int) != (nT : Int)) = true := by simp; omega
    have q2 : ((n : Int) == (nT : Int)) = false := by simp; omega
    have q3 : ¬ (n : Int) = (nT : Int) := by omega
    have hBf : B = false := by rw [← HB.out]; exact decide_eq_false (fun h => hne (by rw [← Hn.out.1, ← Hn.out.2]; exact h.1))
    have HBf := Aside0.mk hBf
    clear hne hBf
    go_enter Tryz.func48, Tryz.ntmps48
    go_wp2_with fail
    refine HLn.out.mono ?_
    rintro e w' ⟨rfl, rfl⟩
    go_wp2_with fail
    go_ret
    rw [HBf.out]
    exact ⟨rfl, Below.refl _ _⟩
  subst hne
  have q1 : ((n : Int) != (n : Int)) = false := by simp
  go_enter Tryz.func48, Tryz.ntmps48
  go_wp2_with fail
  refine HLn.out.mono ?_
  rintro e w' ⟨rfl, rfl⟩
  go_wp2_with fail
  go_loopw [18] (fun I wr => ∃ i : Nat, I = .int .i64 (i : Int) ∧ i ≤ n ∧ Aside0 (∀ j, j < i → OkM T tm j) ∧ Aside0 (Below w.heap.size w wr)) (fun I _ => n - (intOf I).toNat)
  case atStart => exact ⟨0, rfl, Nat.zero_le _, ⟨fun j h => absurd h (by omega)⟩, ⟨Below.refl _ _⟩⟩
  case round =>
    obtain ⟨i, rfl, hi, HO, HBl⟩ := hrel
    by_cases hin : i < n
    · have hnb : decide ((i : Int) < (n : Int)) = true := decide_eq_true (by omega)
      have hnc : decide (i < n) = true := decide_eq_true hin
      have hil : i < tm.length := by rw [Hn.out.1]; exact hin
      obtain ⟨ad, rfl, hx⟩ := (HR.out.below HBl.out).at_ (i : Int) (by omega) (by omega)
      have hx : wr.cell? (ad.add i) = some (.int .i64 (tm.getD i 0)) := by simpa [rd] using hx
      obtain ⟨x, hxx⟩ : ∃ x, tm.getD i 0 = x := ⟨_, rfl⟩
      rw [hxx] at hx
      have i0 : 0 ≤ (i : Int) := by omega
      have i1 : (i : Int) < (n : Int) := by omega
      have i2 : (i : Int) ≤ 1000000 := by have := Hl.out; have := Hn.out.2; omega
      have Hin := Aside0.mk (And.intro hin (And.intro hil hxx))
      have hbad : ¬ OkM T tm i → B = false := fun h => by rw [← HB.out]; exact decide_eq_false (fun hR => h (hR.2 i hil))
      have Hbad := Aside0.mk hbad
      clear hin hi hil hbad
      replace i0 := eq_true i0
      replace i1 := eq_true i1
      by_cases x0 : 0 ≤ x ∧ x ≤ (i : Int)
      · obtain ⟨m, rfl⟩ := Int.eq_ofNat_of_zero_le x0.1
        have hml : m < tm.length := by have := Hin.out.2.1; omega
        obtain ⟨ad2, had2, hy⟩ := (HR.out.below HBl.out).at_ (m : Int) (by omega) (by omega)
        cases had2
        have hy : wr.cell? (ad.add m) = some (.int .i64 (tm.getD m 0)) := by simpa [rd] using hy
        obtain ⟨y, hyy⟩ : ∃ y, tm.getD m 0 = y := ⟨_, rfl⟩
        rw [hyy] at hy
        have m0 : 0 ≤ (m : Int) := by omega
        have m1 : (m : Int) < (n : Int) := by have := Hin.out.1; omega
        have r1 : ¬ (m : Int) < 0 := by omega
        have r2 : ¬ (i : Int) < (m : Int) := by omega
        have r3 : decide ((m : Int) > (i : Int)) = false := decide_eq_false (by omega)
        replace m0 := eq_true m0
        replace m1 := eq_true m1
        by_cases hym : y = (m : Int)
        · subst hym
          have hym' : ((m : Int) != (m : Int)) = false := by simp
          have HT1 := Aside0.mk (type_any p T E (m : Int) wr (HG.out.below HBl.out) Hl.out)
          have HT2 := Aside0.mk (type_any p T E (i : Int) wr (HG.out.below HBl.out) Hl.out)
          have Hm := Aside0.mk (And.intro x0 hyy)
          clear x0 hyy hml
          go_wp2_with fail
          refine HT1.out.mono ?_
          rintro e w' ⟨rfl, rfl⟩
          go_wp2_with fail
          refine HT2.out.mono ?_
          rintro e w' ⟨rfl, rfl⟩
          by_cases hty : typeG T (m : Int) = typeG T (i : Int)
          · have hok : OkM T tm i := by
              unfold OkM cl
              rw [hxx]
              exact ⟨Hm.out.1.1, Hm.out.1.2, Hm.out.2, hty⟩
            have HO2 := Aside0.mk (fun (j : Nat) (hj : j < i + 1) => (show OkM T tm j by
              by_cases e : j = i
              · rw [e]; exact hok
              · exact HO.out j (by omega)))
            have he := Tx_eq hty
            clear hok
            go_wp2_with fail
            go_roundw
            case rel => exact ⟨i + 1, by go_num, Hin.out.1, HO2, HBl⟩
            case measure => have := Hin.out.1; simp [intOf]; omega
          · have hBf := Hbad.out (fun h => hty (by have := h.2.2.2; unfold cl at this; rw [hxx] at this; exact this))
            have he := Tx_ne hty
            have HBf := Aside0.mk hBf
            clear hBf
            go_wp2_with fail
            go_ret
            rw [HBf.out]
            exact ⟨rfl, HBl.out⟩
        · have hBf := Hbad.out (fun h => hym (by have := h.2.2.1; unfold cl at this; rw [hxx] at this; rw [← hyy]; simpa using this))
          have hym' : (y != (m : Int)) = true := by simpa using hym
          have HBf := Aside0.mk hBf
          clear hBf x0 hyy hml
          go_wp2_with fail
          go_ret
          rw [HBf.out]
          exact ⟨rfl, HBl.out⟩
      · have hBf := Hbad.out (fun h => x0 ⟨by have := h.1; unfold cl at this; rw [hxx] at this; exact this, by have := h.2.1; unfold cl at this; rw [hxx] at this; exact this⟩)
        have HBf := Aside0.mk hBf
        have hor : x < 0 ∨ (0 ≤ x ∧ (i : Int) < x) := by omega
        clear hBf x0
        rcases hor with h1 | ⟨h1, h2⟩
        · go_wp2_with fail
          go_ret
          rw [HBf.out]
          exact ⟨rfl, HBl.out⟩
        · have r1 : ¬ x < 0 := by omega
          have r3 : decide (x > (i : Int)) = true := decide_eq_true (by omega)
          go_wp2_with fail
          go_ret
          rw [HBf.out]
          exact ⟨rfl, HBl.out⟩
    · have hnb : decide ((i : Int) < (n : Int)) = false := decide_eq_false (by omega)
      have hnc : decide (i < n) = false := decide_eq_false hin
      obtain rfl : i = n := by omega
      have hBt : B = true := by rw [← HB.out]; exact decide_eq_true ⟨by rw [Hn.out.1, Hn.out.2], fun j hj => HO.out j (by rw [← Hn.out.1]; exact hj)⟩
      have HBt := Aside0.mk hBt
      clear hin hi hBt
      go_wp2_with fail
      go_ret
      rw [HBt.out]
      exact ⟨rfl, HBl.out⟩
end Go.Proofs.YtkpadjhdneiniaaGreatDoor.Sb
end

/- Kg: stable.Marks; the document's Right. -/
section
namespace Go.Proofs.YtkpadjhdneiniaaGreatDoor.Sb
set_option linter.unusedVariables false
open Go.RowKit Go.Proofs.YtkpadjhdneiniaaGreatDoorW.PrintWords Go.Proofs.YtkpadjhdneiniaaGreatDoorW.PrintLast Go.Proofs.YtkpadjhdneiniaaGreatDoorW.PrintMore Go.Maps
open Go.Proofs.YtkpadjhdneiniaaGreatDoor.Base Go.Proofs.YtkpadjhdneiniaaGreatDoor.Map Go.Proofs.YtkpadjhdneiniaaGreatDoor.Sl Go.Proofs.YtkpadjhdneiniaaGreatDoor.Ow Go.Proofs.YtkpadjhdneiniaaGreatDoor.Se Go.Proofs.YtkpadjhdneiniaaGreatDoor.Gr Go.Proofs.YtkpadjhdneiniaaGreatDoor.Rf Go.Proofs.YtkpadjhdneiniaaGreatDoor.Tx Go.Proofs.YtkpadjhdneiniaaGreatDoor.St

end Go.Proofs.YtkpadjhdneiniaaGreatDoor.Sb
end

/- Ki: The document's Finer. -/
section
namespace Go.Proofs.YtkpadjhdneiniaaGreatDoor.Sb
set_option linter.unusedVariables false
open Go.RowKit Go.Proofs.YtkpadjhdneiniaaGreatDoorW.PrintWords Go.Proofs.YtkpadjhdneiniaaGreatDoorW.PrintLast Go.Proofs.YtkpadjhdneiniaaGreatDoorW.PrintMore Go.Maps
open Go.Proofs.YtkpadjhdneiniaaGreatDoor.Base Go.Proofs.YtkpadjhdneiniaaGreatDoor.Map Go.Proofs.YtkpadjhdneiniaaGreatDoor.Sl Go.Proofs.YtkpadjhdneiniaaGreatDoor.Ow Go.Proofs.YtkpadjhdneiniaaGreatDoor.Se Go.Proofs.YtkpadjhdneiniaaGreatDoor.Gr Go.Proofs.YtkpadjhdneiniaaGreatDoor.Rf Go.Proofs.YtkpadjhdneiniaaGreatDoor.Tx Go.Proofs.YtkpadjhdneiniaaGreatDoor.St

/-- is each class of one list within one of the other's? -/
def FinerM (a b : List Int) : Prop := a.length = b.length ∧ ∀ i k, k < i → i < a.length → a.getD i 0 = a.getD k 0 → b.getD i 0 = b.getD k 0
open Classical in
noncomputable instance (a b : List Int) : Decidable (FinerM a b) := Classical.propDecidable _
set_option maxHeartbeats 8000000 in
set_option maxRecDepth 100000 in
theorem rfiner_any (u v : Value) (a b : List Int) (w : World) (hu : RdV w u a) (hv : RdV w v b) (hl : a.length ≤ 1000000) :
    Calls Tryz.prog 46 #[u, v] w fun e w' => e = .returned (.bool (decide (FinerM a b))) ∧ Below w.heap.size w w' := by
  obtain ⟨A, c, rfl, hc, hr⟩ := hu
  obtain ⟨A', c', rfl, hc', hr'⟩ := hv
  have HR := Aside0.mk (And.intro hr hr')
  have Hl := Aside0.mk hl
  obtain ⟨B, hB⟩ : ∃ B, decide (FinerM a b) = B := ⟨_, rfl⟩
  rw [hB]
  have HB := Aside0.mk hB
  obtain ⟨n, hn⟩ : ∃ n, a.length = n := ⟨_, rfl⟩
  obtain ⟨m, hm⟩ : ∃ n, b.length = n := ⟨_, rfl⟩
  have Hn := Aside0.mk (And.intro hn hm)
  rw [hn, hm]
  clear hr hr' hc hc' hl hB hn hm
  by_cases hne : n = m
  case neg =>
    have q1 : ((n : Int) != (m : Int)) = true := by simp; omega
    have hBf : B = false := by rw [← HB.out]; exact decide_eq_false (fun h => hne (by rw [← Hn.out.1, ← Hn.out.2, h.1]))
    have HBf := Aside0.mk hBf
    clear hne hBf
    go_enter Tryz.func46, Tryz.ntmps46
    go_wp2_with fail
    go_ret
    rw [HBf.out]
    exact ⟨rfl, Below.refl _ _⟩
  subst hne
  have q1 : ((n : Int) != (n : Int)) = false := by simp
  go_enter Tryz.func46, Tryz.ntmps46
  go_wp2_with fail
  go_loopw [5] (fun I wr => ∃ i : Nat, I = .int .i64 (i : Int) ∧ i ≤ n ∧ Aside0 (∀ j k, k < j → j < i → a.getD j 0 = a.getD k 0 → b.getD j 0 = b.getD k 0) ∧ Aside0 (Below w.heap.size w wr)) (fun I _ => n - (intOf I).toNat)
  case atStart => exact ⟨0, rfl, Nat.zero_le _, ⟨fun j k h1 h2 => absurd h2 (by omega)⟩, ⟨Below.refl _ _⟩⟩
  case round =>
    obtain ⟨i, rfl, hi, HE, HBl⟩ := hrel
    by_cases hin : i < n
    · have hnb : decide ((i : Int) < (n : Int)) = true := decide_eq_true (by omega)
      have hnc : decide (i < n) = true := decide_eq_true hin
      have Hin := Aside0.mk hin
      have hi6 : i ≤ 1000000 := by have := Hl.out; have := Hn.out.1; omega
      have Hi6 := Aside0.mk hi6
      clear hin hi hi6
      go_wp2_with fail
      go_loopw [6] (fun K wx => ∃ k : Nat, K = .int .i64 (k : Int) ∧ k ≤ i ∧ Aside0 (∀ j, j < k → a.getD i 0 = a.getD j 0 → b.getD i 0 = b.getD j 0) ∧ Aside0 (Below w.heap.size w wx)) (fun K _ => i - (intOf K).toNat)
      case atStart => exact ⟨0, rfl, Nat.zero_le _, ⟨fun j h => absurd h (by omega)⟩, HBl⟩
      case round =>
        obtain ⟨k, rfl, hk, HK, HBk⟩ := hrel
        by_cases hki : k < i
        · have hkb : decide ((k : Int) < (i : Int)) = true := decide_eq_true (by omega)
          have hkc : decide (k < i) = true := decide_eq_true hki
          have hia : i < a.length := by rw [Hn.out.1]; exact Hin.out
          have hib : i < b.length := by rw [Hn.out.2]; exact Hin.out
          obtain ⟨ad, rfl, e1⟩ := (HR.out.1.below HBk.out).at_ (i : Int) (by omega) (by omega)
          have e1 : wr.cell? (ad.add i) = some (.int .i64 (a.getD i 0)) := by simpa [rd] using e1
          obtain ⟨ad', h', e2⟩ := (HR.out.1.below HBk.out).at_ (k : Int) (by omega) (by omega)
          cases h'
          have e2 : wr.cell? (ad.add k) = some (.int .i64 (a.getD k 0)) := by simpa [rd] using e2
          obtain ⟨ad2, rfl, e3⟩ := (HR.out.2.below HBk.out).at_ (i : Int) (by omega) (by omega)
          have e3 : wr.cell? (ad2.add i) = some (.int .i64 (b.getD i 0)) := by simpa [rd] using e3
          obtain ⟨ad', h', e4⟩ := (HR.out.2.below HBk.out).at_ (k : Int) (by omega) (by omega)
          cases h'
          have e4 : wr.cell? (ad2.add k) = some (.int .i64 (b.getD k 0)) := by simpa [rd] using e4
          obtain ⟨x, hx⟩ : ∃ x, a.getD i 0 = x := ⟨_, rfl⟩
          obtain ⟨y, hy⟩ : ∃ x, a.getD k 0 = x := ⟨_, rfl⟩
          obtain ⟨s, hs⟩ : ∃ x, b.getD i 0 = x := ⟨_, rfl⟩
          obtain ⟨t, ht⟩ : ∃ x, b.getD k 0 = x := ⟨_, rfl⟩
          rw [hx] at e1
          rw [hy] at e2
          rw [hs] at e3
          rw [ht] at e4
          have i0 : 0 ≤ (i : Int) := by omega
          have i1 : (i : Int) < (n : Int) := by have := Hin.out; omega
          have k0 : 0 ≤ (k : Int) := by omega
          have k1 : (k : Int) < (n : Int) := by have := Hin.out; omega
          have k2 : (k : Int) ≤ 1000000 := by have := Hi6.out; omega
          have HBd := Aside0.mk (below_drew HBk.out)
          have Hki := Aside0.mk hki
          have Hxy := Aside0.mk (And.intro hx (And.intro hy (And.intro hs ht)))
          clear hki hk hia hib hx hy hs ht
          replace i0 := eq_true i0
          replace i1 := eq_true i1
          replace k0 := eq_true k0
          replace k1 := eq_true k1
          by_cases hxy : x = y
          · subst hxy
            by_cases hst : s = t
            · subst hst
              have HK2 := Aside0.mk (fun (j : Nat) (hj : j < k + 1) (e : a.getD i 0 = a.getD j 0) => (show b.getD i 0 = b.getD j 0 by
                by_cases ej : j = k
                · rw [ej, Hxy.out.2.2.1, Hxy.out.2.2.2]
                · exact HK.out j (by omega) e))
              go_wp2_with fail
              go_region
              go_wp2_with fail
              go_roundw
              case rel => exact ⟨k + 1, by go_num, Hki.out, HK2, HBd⟩
              case measure => have := Hki.out; simp [intOf]; omega
            · have h1 : (s != t) = true := by simpa using hst
              have hBf : B = false := by
                rw [← HB.out]
                exact decide_eq_false (fun h => hst (by
                  have h2 := h.2 i k Hki.out (by rw [Hn.out.1]; exact Hin.out) (by rw [Hxy.out.1, Hxy.out.2.1])
                  rw [Hxy.out.2.2.1, Hxy.out.2.2.2] at h2; exact h2))
              have HBf := Aside0.mk hBf
              clear hBf hst
              go_wp2_with fail
              go_region
              go_wp2_with fail
              go_ret
              rw [HBf.out]
              exact ⟨rfl, HBd.out⟩
          · have h1 : (x == y) = false := by simpa using hxy
            have HK2 := Aside0.mk (fun (j : Nat) (hj : j < k + 1) (e : a.getD i 0 = a.getD j 0) => (show b.getD i 0 = b.getD j 0 by
              by_cases ej : j = k
              · rw [ej, Hxy.out.1, Hxy.out.2.1] at e; exact absurd e hxy
              · exact HK.out j (by omega) e))
            go_wp2_with fail
            go_region
            go_wp2_with fail
            go_roundw
            case rel => exact ⟨k + 1, by go_num, Hki.out, HK2, HBd⟩
            case measure => have := Hki.out; simp [intOf]; omega
        · have hkb : decide ((k : Int) < (i : Int)) = false := decide_eq_false (by omega)
          have hkc : decide (k < i) = false := decide_eq_false hki
          obtain rfl : k = i := by omega
          have HE2 := Aside0.mk (fun (j q : Nat) (h1 : q < j) (h2 : j < k + 1) (e : a.getD j 0 = a.getD q 0) => (show b.getD j 0 = b.getD q 0 by
            by_cases ej : j = k
            · subst ej; exact HK.out q h1 e
            · exact HE.out j q h1 (by omega) e))
          have hk6 : (k : Int) ≤ 1000000 := by have := Hi6.out; omega
          clear hki hk
          go_wp2_with fail
          go_roundw
          case rel => exact ⟨k + 1, by go_num, Hin.out, HE2, HBk⟩
          case measure => have := Hin.out; simp [intOf]; omega
    · have hnb : decide ((i : Int) < (n : Int)) = false := decide_eq_false (by omega)
      have hnc : decide (i < n) = false := decide_eq_false hin
      obtain rfl : i = n := by omega
      have hBt : B = true := by rw [← HB.out]; exact decide_eq_true ⟨by rw [Hn.out.1, Hn.out.2], fun j k h1 h2 e => HE.out j k h1 (by rw [← Hn.out.1]; exact h2) e⟩
      have HBt := Aside0.mk hBt
      clear hin hi hBt
      go_wp2_with fail
      go_ret
      rw [HBt.out]
      exact ⟨rfl, HBl.out⟩
end Go.Proofs.YtkpadjhdneiniaaGreatDoor.Sb
end

