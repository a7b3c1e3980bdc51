/- StableFiner: its walk. -/
import Derived.Test.YtkpadjhdneiniaaDoorKw
namespace Go.Proofs.YtkpadjhdneiniaaDoor.Sb
set_option linter.unusedVariables false
open Go.RowKit Go.Proofs.YtkpadjhdneiniaaDoorW.PrintWords Go.Proofs.YtkpadjhdneiniaaDoorW.PrintLast Go.Proofs.YtkpadjhdneiniaaDoorW.PrintMore Go.Maps
open Go.Proofs.YtkpadjhdneiniaaDoor.Base Go.Proofs.YtkpadjhdneiniaaDoor.Map Go.Proofs.YtkpadjhdneiniaaDoor.Sl Go.Proofs.YtkpadjhdneiniaaDoor.Ow Go.Proofs.YtkpadjhdneiniaaDoor.Se Go.Proofs.YtkpadjhdneiniaaDoor.Gr Go.Proofs.YtkpadjhdneiniaaDoor.Rf Go.Proofs.YtkpadjhdneiniaaDoor.Tx Go.Proofs.YtkpadjhdneiniaaDoor.St

theorem finer_self (a : List Int) : FinerM a a := ⟨rfl, fun i k _ _ h => h⟩
set_option maxHeartbeats 8000000 in
set_option maxRecDepth 100000 in
theorem finer_law (u v : Value) (a b : List Int) (w : World) (hT : TZ w) (hP : P10 w) (hu : RdV w u a) (hv : RdV w v b) (hok : ∀ x ∈ a, ok64 x) :
    Calls Tryd.prog 5 #[u, v] w fun e w' => e = .returned (.bool true) ∧ Below w.heap.size w w' := by
  have HAw := Aside0.mk (fun (W : World) (hb : Below w.heap.size w W) => awake_any W (hT.below hb) (hP.below hb))
  have HU := Aside0.mk hu
  have HV := Aside0.mk hv
  obtain ⟨A, c, rfl, hc, hr⟩ := hu
  obtain ⟨A', c', rfl, hc', hr'⟩ := hv
  have Hok := Aside0.mk hok
  have hmx := hr.max
  have hmx' := hr'.max
  obtain ⟨n, hn⟩ : ∃ n, a.length = n := ⟨_, rfl⟩
  obtain ⟨m, hm⟩ : ∃ n, b.length = n := ⟨_, rfl⟩
  have Hn := Aside0.mk (And.intro hn hm)
  rw [hn] at HU hmx ⊢
  rw [hm] at HV hmx' ⊢
  clear hT hP hc hr hc' hr' hok hn hm
  go_enter Tryd.func5, Tryd.ntmps5
  go_wp2_with fail
  refine (HAw.out w (Below.refl _ _)).mono ?_
  rintro e w1 ⟨rfl, r1⟩
  have HB1 := Aside0.mk r1
  clear r1
  by_cases h1 : n ≤ 30
  case neg =>
    have d1 : decide ((n : Int) > 30) = true := decide_eq_true (by omega)
    have d2 : decide ((30 : Int) < (n : Int)) = true := decide_eq_true (by omega)
    have d3 : (30 : Int) < (n : Int) := by omega
    go_wp2_with fail
    refine (HAw.out w1 HB1.out).mono ?_
    rintro e w2 ⟨rfl, r1⟩
    have HB2 := Aside0.mk (bel_trans HB1.out r1)
    clear r1
    go_wp2_with fail
    go_ret
    exact ⟨rfl, HB2.out⟩
  have d1 : decide ((n : Int) > 30) = false := decide_eq_false (by omega)
  have d2 : decide ((30 : Int) < (n : Int)) = false := decide_eq_false (by omega)
  have d3 : ¬ (30 : Int) < (n : Int) := by omega
  have H1 := Aside0.mk h1
  clear h1
  by_cases h2 : m ≤ 30
  case neg =>
    have e1 : decide ((m : Int) > 30) = true := decide_eq_true (by omega)
    have e2 : decide ((30 : Int) < (m : Int)) = true := decide_eq_true (by omega)
    have e3 : (30 : Int) < (m : Int) := by omega
    go_wp2_with fail
    refine (HAw.out w1 HB1.out).mono ?_
    rintro e w2 ⟨rfl, r1⟩
    have HB2 := Aside0.mk (bel_trans HB1.out r1)
    clear r1
    go_wp2_with fail
    go_ret
    exact ⟨rfl, HB2.out⟩
  have e1 : decide ((m : Int) > 30) = false := decide_eq_false (by omega)
  have e2 : decide ((30 : Int) < (m : Int)) = false := decide_eq_false (by omega)
  have e3 : ¬ (30 : Int) < (m : Int) := by omega
  clear h2
  have HF1 := Aside0.mk (finer_any _ _ a b w1 (HU.out.below HB1.out) (HV.out.below HB1.out) (by have := H1.out; have := Hn.out; omega) Hok.out)
  obtain ⟨B, hB⟩ : ∃ B, decide (FinerM a b) = B := ⟨_, rfl⟩
  rw [hB] at HF1
  go_wp2_with fail
  refine HF1.out.mono ?_
  rintro e w2 ⟨rfl, r1⟩
  have HB2 := Aside0.mk (bel_trans HB1.out r1)
  have HF2 := Aside0.mk (rfiner_any _ _ a b w2 (HU.out.below HB2.out) (HV.out.below HB2.out) (by have := H1.out; have := Hn.out; omega))
  rw [hB] at HF2
  clear r1 hB
  go_wp2_with fail
  refine HF2.out.mono ?_
  rintro e w3 ⟨rfl, r1⟩
  have HB3 := Aside0.mk (bel_trans HB2.out r1)
  have HF3 := Aside0.mk (finer_any _ _ a a w3 (HU.out.below HB3.out) (HU.out.below HB3.out) (by have := H1.out; have := Hn.out; omega) Hok.out)
  have hs : decide (FinerM a a) = true := decide_eq_true (finer_self a)
  rw [hs] at HF3
  have hbb : (B == B) = true := by simp
  clear r1 hs
  go_wp2_with fail
  refine HF3.out.mono ?_
  rintro e w4 ⟨rfl, r1⟩
  have HB4 := Aside0.mk (bel_trans HB3.out r1)
  clear r1
  go_wp2_with fail
  go_ret
  exact ⟨rfl, HB4.out⟩
end Go.Proofs.YtkpadjhdneiniaaDoor.Sb
