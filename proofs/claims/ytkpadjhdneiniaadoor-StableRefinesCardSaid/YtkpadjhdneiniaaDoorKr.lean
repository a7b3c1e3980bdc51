/- stable.Finer. -/
import Derived.Test.YtkpadjhdneiniaaDoorKp
namespace Go.Proofs.YtkpadjhdneiniaaDoor.Sb
set_option linter.unusedVariables false
open Go.RowKit Go.Proofs.YtkpadjhdneiniaaDoorW.PrintWords Go.Proofs.YtkpadjhdneiniaaDoorW.PrintLast Go.Proofs.YtkpadjhdneiniaaDoorW.PrintMore Go.Maps
open Go.Proofs.YtkpadjhdneiniaaDoor.Base Go.Proofs.YtkpadjhdneiniaaDoor.Map Go.Proofs.YtkpadjhdneiniaaDoor.Sl Go.Proofs.YtkpadjhdneiniaaDoor.Ow Go.Proofs.YtkpadjhdneiniaaDoor.Se Go.Proofs.YtkpadjhdneiniaaDoor.Gr Go.Proofs.YtkpadjhdneiniaaDoor.Rf Go.Proofs.YtkpadjhdneiniaaDoor.Tx Go.Proofs.YtkpadjhdneiniaaDoor.St

def intLit (x : Int) : Lit := .int .i64 x
theorem intLit_inj (a b : Int) (_ : ok64 a) (_ : ok64 b) (h : intLit a = intLit b) : a = b := by simpa [intLit] using h
theorem finer_step {a b : List Int} {i q : Nat} (hE : ∀ j k, k < j → j < i → a.getD j 0 = a.getD k 0 → b.getD j 0 = b.getD k 0) (hq : q < i) (h1 : a.getD q 0 = a.getD i 0) (h2 : ∀ k, k < q → a.getD k 0 ≠ a.getD i 0) (h3 : b.getD i 0 = b.getD q 0) :
    ∀ j k, k < j → j < i + 1 → a.getD j 0 = a.getD k 0 → b.getD j 0 = b.getD k 0 := by
  intro j k hk hj e
  by_cases ej : j = i
  · subst ej
    rcases Nat.lt_trichotomy k q with hl | hl | hl
    · exact absurd e.symm (h2 k hl)
    · subst hl; exact h3
    · rw [h3]; exact (hE k q hl hk (e.symm.trans h1.symm)).symm
  · exact hE j k hk (by omega) e
theorem finer_new {a b : List Int} {i : Nat} (hE : ∀ j k, k < j → j < i → a.getD j 0 = a.getD k 0 → b.getD j 0 = b.getD k 0) (hn : ¬ ∃ j, j < i ∧ a.getD j 0 = a.getD i 0) :
    ∀ j k, k < j → j < i + 1 → a.getD j 0 = a.getD k 0 → b.getD j 0 = b.getD k 0 := by
  intro j k hk hj e
  by_cases ej : j = i
  · subst ej; exact absurd ⟨k, hk, e.symm⟩ hn
  · exact hE j k hk (by omega) e
set_option maxHeartbeats 8000000 in
set_option maxRecDepth 100000 in
theorem finer_any (u v : Value) (a b : List Int) (w : World) (hu : RdV w u a) (hv : RdV w v b) (hl : a.length ≤ 1000000) (hok : ∀ x ∈ a, ok64 x) :
    Calls Tryd.prog 19 #[u, v] w fun e w' => e = .returned (.bool (decide (FinerM a b))) ∧ Below w.heap.size w w' := by
  obtain ⟨A, c, rfl, hc, hr⟩ := hu
  obtain ⟨A', c', rfl, hc', hr'⟩ := hv
  have HR := Aside0.mk (And.intro hr hr')
  have Hl := Aside0.mk (And.intro hl hok)
  obtain ⟨B, hB⟩ : ∃ B, decide (FinerM a b) = B := ⟨_, rfl⟩
  rw [hB]
  have HB := Aside0.mk hB
  obtain ⟨n, hn⟩ : ∃ n, a.length = n := ⟨_, rfl⟩
  obtain ⟨m, hm⟩ : ∃ n, b.length = n := ⟨_, rfl⟩
  have Hn := Aside0.mk (And.intro hn hm)
  rw [hn, hm]
  clear hr hr' hc hc' hl hB hn hm hok
  by_cases hne : n = m
  case neg =>
    have q1 : ((n : Int) != (m : Int)) = true := by simp; omega
    have hBf : B = false := by rw [← HB.out]; exact decide_eq_false (fun h => hne (by rw [← Hn.out.1, ← Hn.out.2, h.1]))
    have HBf := Aside0.mk hBf
    clear hne hBf
    go_enter Tryd.func19, Tryd.ntmps19
    go_wp2_with fail
    go_ret
    rw [HBf.out]
    exact ⟨rfl, Below.refl _ _⟩
  subst hne
  have q1 : ((n : Int) != (n : Int)) = false := by simp
  have hmm := @run_makeMap Tryd.prog
  go_enter Tryd.func19, Tryd.ntmps19
  go_wp2_with fail
  obtain ⟨mb, hmb⟩ : ∃ b, w.heap.size = b := ⟨_, rfl⟩
  obtain ⟨w0, hw0⟩ : ∃ w0, w.alloc (.map #[] 0) = w0 := ⟨_, rfl⟩
  have HB0 := Aside0.mk (show Below w.heap.size w w0 by rw [← hw0]; exact below_alloc (Below.refl _ _) _)
  have HM0 := Aside0.mk (show MapP Tryd.prog 3 w0 mb (fun _ => none) 0 by rw [← hw0, ← hmb]; exact MapP.made w Tryd.prog 3)
  rw [hw0]
  have Hmb := Aside0.mk hmb
  simp only [hmb]
  clear hw0 hmb hmm q1
  go_loopw [18] (fun I wr => ∃ (i cn : Nat) (f : Lit → Option Value), I = .int .i64 (i : Int) ∧ i ≤ n ∧ Aside0 (∀ j k, k < j → j < i → a.getD j 0 = a.getD k 0 → b.getD j 0 = b.getD k 0) ∧ Aside0 (MapP Tryd.prog 3 wr mb f cn ∧ cn ≤ i ∧ HMap intLit ok64 (fun j => a.getD j 0) i f) ∧ Aside0 (Below w.heap.size w wr)) (fun I _ => n - (intOf I).toNat)
  case atStart => exact ⟨0, 0, _, rfl, Nat.zero_le _, ⟨fun j k h1 h2 => absurd h2 (by omega)⟩, ⟨HM0.out, Nat.le_refl _, HMap.start⟩, HB0⟩
  case round =>
    obtain ⟨i, cn, f, rfl, hi, HE, HM, HBl⟩ := hrel
    by_cases hin : i < n
    · have hnb : decide ((i : Int) < (n : Int)) = true := decide_eq_true (by omega)
      have hnc : decide (i < n) = true := decide_eq_true hin
      have hia : i < a.length := by rw [Hn.out.1]; exact hin
      have hib : i < b.length := by rw [Hn.out.2]; exact hin
      obtain ⟨ad, rfl, e1⟩ := (HR.out.1.below HBl.out).at_ (i : Int) (by omega) (by omega)
      have e1 : wr.cell? (ad.add i) = some (.int .i64 (a.getD i 0)) := by simpa [rd] using e1
      obtain ⟨ad2, rfl, e3⟩ := (HR.out.2.below HBl.out).at_ (i : Int) (by omega) (by omega)
      have e3 : wr.cell? (ad2.add i) = some (.int .i64 (b.getD i 0)) := by simpa [rd] using e3
      have hxo := Hl.out.2 _ (getD_memI hia)
      have hKo := Aside0.mk (fun j (hj : j ≤ i) => Hl.out.2 _ (getD_memI (show j < a.length by omega)))
      obtain ⟨x, hx⟩ : ∃ x, a.getD i 0 = x := ⟨_, rfl⟩
      obtain ⟨s, hs⟩ : ∃ x, b.getD i 0 = x := ⟨_, rfl⟩
      rw [hx] at e1 hxo
      rw [hs] at e3
      have i0 : 0 ≤ (i : Int) := by omega
      have i1 : (i : Int) < (n : Int) := by omega
      have i2 : (i : Int) ≤ 1000000 := by have := Hl.out.1; have := Hn.out.1; omega
      have Hin := Aside0.mk (And.intro hin (And.intro hx hs))
      have Hkey := Aside0.mk (intKey hxo)
      have hlk := HM.out.1.look_ok law3 Tryd.underlying66 (zero3 _) (intKey hxo)
      by_cases hmet : ∃ j, j < i ∧ a.getD j 0 = a.getD i 0
      · obtain ⟨q, q1, q2, q3, q4, q5⟩ := HM.out.2.2.met hmet
        rw [hx] at q4
        have q4 : f (.int .i64 x) = some (.int .i64 (q : Int)) := q4
        rw [q4] at hlk
        simp only [Option.getD_some, Option.isSome_some] at hlk
        obtain ⟨ad', h', e4⟩ := (HR.out.2.below HBl.out).at_ (q : Int) (by omega) (by omega)
        cases h'
        have e4 : wr.cell? (ad2.add q) = some (.int .i64 (b.getD q 0)) := by simpa [rd] using e4
        obtain ⟨t, ht⟩ : ∃ x, b.getD q 0 = x := ⟨_, rfl⟩
        rw [ht] at e4
        have k0 : 0 ≤ (q : Int) := by omega
        have k1 : (q : Int) < (n : Int) := by omega
        have HQ := Aside0.mk (And.intro q1 (And.intro q2 (And.intro q3 (And.intro q5 ht))))
        have HBd := Aside0.mk (below_drew HBl.out)
        have HMd := Aside0.mk (HM.out.1.below (below_drew (Below.refl _ _)))
        clear hin hi hia hib hx hs hxo hmet q1 q2 q3 q4 q5 ht
        replace i0 := eq_true i0
        replace i1 := eq_true i1
        replace k0 := eq_true k0
        replace k1 := eq_true k1
        by_cases hst : s = t
        · subst hst
          have HE2 := Aside0.mk (finer_step HE.out HQ.out.1 HQ.out.2.1 HQ.out.2.2.1 (Hin.out.2.2.trans HQ.out.2.2.2.2.symm))
          go_wp2_with fail
          go_region
          go_wp2_with fail
          go_roundw
          case rel => exact ⟨i + 1, cn, f, by go_num, Hin.out.1, HE2, ⟨HMd.out, Nat.le_succ_of_le HM.out.2.1, HQ.out.2.2.2.1⟩, HBd⟩
          case measure => have := Hin.out; simp [intOf]; omega
        · have h1 : (s != t) = true := by simpa using hst
          have hBf : B = false := by
            rw [← HB.out]
            exact decide_eq_false (fun h => hst (by
              have h2 := h.2 i q HQ.out.1 (by rw [Hn.out.1]; exact Hin.out.1) HQ.out.2.1.symm
              rw [Hin.out.2.2, HQ.out.2.2.2.2] at h2; exact h2))
          have HBf := Aside0.mk hBf
          clear hBf hst
          go_wp2_with fail
          go_region
          go_wp2_with fail
          go_ret
          rw [HBf.out]
          exact ⟨rfl, HBd.out⟩
      · obtain ⟨q4, q5⟩ := HM.out.2.2.more intLit_inj (fun j hj => hKo.out j hj) hmet
        rw [hx] at q4 q5
        have q4 : f (.int .i64 x) = none := q4
        rw [q4] at hlk
        simp only [Option.getD_none, Option.isSome_none] at hlk
        have HE2 := Aside0.mk (finer_new HE.out hmet)
        have Hcn := Aside0.mk (show cn < maxLen by have := HM.out.2.1; have := Hn.out; unfold maxLen; omega)
        have Hq := Aside0.mk (And.intro q4 q5)
        have HM2 := Aside0.mk HM.out.1
        clear hin hi hia hib hx hs hxo hmet q4 q5
        replace i0 := eq_true i0
        replace i1 := eq_true i1
        go_wp2_with (first
          | (at_mapUpdate; refine wp_store (val := .int .i64 (i : Int)) rfl _ _ _ 66 3 3 rfl HM2.out law3 Tryd.underlying66 Hcn.out rfl rfl rfl Hkey.out ?_; intro w3 hM3 hg3; have hC3 := Aside0.mk (Chg.of_grown (F := fun k => k = mb) hg3 (fun k hk => by cases hk; rfl)); have HM3 := Aside0.mk hM3; clear hM3 hg3)
          | go_in)
        have HB3 := Aside0.mk (chg_own HBl.out (fun k (hk : k = mb) => by have := Hmb.out; omega) hC3.out)
        go_roundw
        case rel => exact ⟨i + 1, _, _, by go_num, Hin.out.1, HE2, ⟨HM3.out, by have := HM.out.2.1; rw [Hq.out.1]; simp; omega, Hq.out.2⟩, HB3⟩
        case measure => have := Hin.out; simp [intOf]; omega
    · have hnb : decide ((i : Int) < (n : Int)) = false := decide_eq_false (by omega)
      have hnc : decide (i < n) = false := decide_eq_false hin
      obtain rfl : i = n := by omega
      have hBt : B = true := by rw [← HB.out]; exact decide_eq_true ⟨by rw [Hn.out.1, Hn.out.2], fun j k h1 h2 e => HE.out j k h1 (by rw [← Hn.out.1]; exact h2) e⟩
      have HBt := Aside0.mk hBt
      clear hin hi hBt
      go_wp2_with fail
      go_ret
      rw [HBt.out]
      exact ⟨rfl, HBl.out⟩
end Go.Proofs.YtkpadjhdneiniaaDoor.Sb
