/- Al, Bd -/
import Derived.Test.YtkpadjhdneiniaaGreatDoorRc
import Derived.Test.YtkpadjhdneiniaaGreatDoorAd
import Derived.Test.YtkpadjhdneiniaaGreatDoorAk
/- Al: The document's Light. -/
section
namespace Go.Proofs.YtkpadjhdneiniaaGreatDoor.Am
set_option linter.unusedVariables false
open Go.RowKit Go.Proofs.YtkpadjhdneiniaaGreatDoorW.PrintWords Go.Proofs.YtkpadjhdneiniaaGreatDoorW.PrintLast Go.Proofs.YtkpadjhdneiniaaGreatDoorW.PrintMore Go.Maps
open Go.Proofs.YtkpadjhdneiniaaGreatDoor.Base Go.Proofs.YtkpadjhdneiniaaGreatDoor.Map Go.Proofs.YtkpadjhdneiniaaGreatDoor.Sl Go.Proofs.YtkpadjhdneiniaaGreatDoor.Ow Go.Proofs.YtkpadjhdneiniaaGreatDoor.Se Go.Proofs.YtkpadjhdneiniaaGreatDoor.Gr Go.Proofs.YtkpadjhdneiniaaGreatDoor.Rf Go.Proofs.YtkpadjhdneiniaaGreatDoor.Tx Go.Proofs.YtkpadjhdneiniaaGreatDoor.Au

/-- few objects, few edges, between objects -/
def LightG (n : Nat) (E : List GE) : Prop := (n ≤ 20 ∧ E.length ≤ 60) ∧ RightG n E ∧ n ≤ 8
instance (n : Nat) (E : List GE) : Decidable (LightG n E) := by unfold LightG; infer_instance
set_option maxHeartbeats 4000000 in
set_option maxRecDepth 100000 in
theorem light_any (A A2 : Option Addr) (n c c2 : Nat) (E : List GE) (w : World) (hE : RdE w A2 E) :
    Calls Tryz.prog 19 #[.agg #[.slice A n c, .slice A2 E.length c2]] w fun e w' => e = .returned (.bool (decide (LightG n E))) ∧ Below w.heap.size w w' := by
  obtain ⟨nE, hnE⟩ : ∃ n, E.length = n := ⟨_, rfl⟩
  obtain ⟨B, hB⟩ : ∃ B, decide (LightG n E) = B := ⟨_, rfl⟩
  rw [hB]
  have HB := Aside0.mk hB
  have Hn := Aside0.mk hnE
  have HE := Aside0.mk hE
  rw [hnE]
  clear hB hE hnE
  obtain ⟨W, hW⟩ : ∃ W, w.alloc (.cells #[.slice A n c, .slice A2 nE c2] 25) = W := ⟨_, rfl⟩
  have HBW := Aside0.mk (show Below w.heap.size w W by rw [← hW]; exact below_alloc (Below.refl _ _) _)
  have Hb := Aside0.mk (show W.heap[w.heap.size]? = some (.cells #[.slice A n c, .slice A2 nE c2] 25 (0, 0)) by rw [← hW]; exact heap_alloc_new _ _)
  obtain ⟨g, hg⟩ : ∃ g, w.heap.size = g := ⟨_, rfl⟩
  rw [hg] at Hb
  have g0 : W.cell? ⟨g, 0, none⟩ = some (.slice A n c) := blk_cellD Hb.out 0 _ rfl
  have g1 : W.cell? ⟨g, 1, none⟩ = some (.slice A2 nE c2) := blk_cellD Hb.out 1 _ rfl
  go_enter Tryz.func19, Tryz.ntmps19
  go_wp2_with fail
  clear hW hg
  refine (small_any A A2 n c nE c2 W).mono ?_
  rintro e w1 ⟨rfl, r1⟩
  have HB1 := Aside0.mk (bel_trans HBW.out r1)
  have Hb1 := Aside0.mk (Ow.blk_below Hb.out r1)
  clear g0 g1 r1
  have g0 : w1.cell? ⟨g, 0, none⟩ = some (.slice A n c) := blk_cellD Hb1.out 0 _ rfl
  have g1 : w1.cell? ⟨g, 1, none⟩ = some (.slice A2 nE c2) := blk_cellD Hb1.out 1 _ rfl
  by_cases hs : n ≤ 20 ∧ nE ≤ 60
  case neg =>
    have hBf : B = false := by rw [← HB.out]; exact decide_eq_false (fun h => hs (by rw [← Hn.out]; exact h.1))
    have d := decide_eq_false hs
    rw [d]
    have HBf := Aside0.mk hBf
    clear d hs hBf
    go_wp2_with fail
    go_ret
    rw [HBf.out]
    exact ⟨rfl, HB1.out⟩
  have d := decide_eq_true hs
  rw [d]
  have Hs := Aside0.mk hs
  have RR := right_any A A2 n c c2 E w1 (HE.out.below HB1.out) (by rw [Hn.out]; omega) (by omega)
  rw [Hn.out] at RR
  have HRR := Aside0.mk RR
  clear d hs RR
  go_wp2_with fail
  refine HRR.out.mono ?_
  rintro e w2 ⟨rfl, r1⟩
  have HB2 := Aside0.mk (bel_trans HB1.out r1)
  have Hb2 := Aside0.mk (Ow.blk_below Hb1.out r1)
  clear g0 g1 r1
  have g0 : w2.cell? ⟨g, 0, none⟩ = some (.slice A n c) := blk_cellD Hb2.out 0 _ rfl
  by_cases hR : RightG n E
  case neg =>
    have hBf : B = false := by rw [← HB.out]; exact decide_eq_false (fun h => hR h.2.1)
    have d := decide_eq_false hR
    rw [d]
    have HBf := Aside0.mk hBf
    clear d hR hBf
    go_wp2_with fail
    go_ret
    rw [HBf.out]
    exact ⟨rfl, HB2.out⟩
  have d := decide_eq_true hR
  rw [d]
  have hBe : B = decide ((n : Int) ≤ 8) := by
    rw [← HB.out]
    by_cases h8 : n ≤ 8
    · rw [decide_eq_true (show (n : Int) ≤ 8 by omega)]; exact decide_eq_true ⟨by rw [Hn.out]; exact Hs.out, hR, h8⟩
    · rw [decide_eq_false (show ¬ (n : Int) ≤ 8 by omega)]; exact decide_eq_false (fun h => h8 h.2.2)
  have HBe := Aside0.mk hBe
  clear d hR hBe
  go_wp2_with fail
  go_ret
  rw [HBe.out]
  exact ⟨rfl, HB2.out⟩
end Go.Proofs.YtkpadjhdneiniaaGreatDoor.Am
end

/- Bd: Build, refused; the document's example of auto. -/
section
namespace Go.Proofs.YtkpadjhdneiniaaGreatDoor.Am
set_option linter.unusedVariables false
open Go.RowKit Go.Proofs.YtkpadjhdneiniaaGreatDoorW.PrintWords Go.Proofs.YtkpadjhdneiniaaGreatDoorW.PrintLast Go.Proofs.YtkpadjhdneiniaaGreatDoorW.PrintMore Go.Maps
open Go.Proofs.YtkpadjhdneiniaaGreatDoor.Base Go.Proofs.YtkpadjhdneiniaaGreatDoor.Map Go.Proofs.YtkpadjhdneiniaaGreatDoor.Sl Go.Proofs.YtkpadjhdneiniaaGreatDoor.Ow Go.Proofs.YtkpadjhdneiniaaGreatDoor.Se Go.Proofs.YtkpadjhdneiniaaGreatDoor.Gr Go.Proofs.YtkpadjhdneiniaaGreatDoor.Rf Go.Proofs.YtkpadjhdneiniaaGreatDoor.Tx Go.Proofs.YtkpadjhdneiniaaGreatDoor.Au


set_option maxHeartbeats 4000000 in
theorem build_nil (o most : Int) (w : World) :
    Calls Tryz.prog 21 #[.pointer none, .int .i64 o, .int .i64 most] w fun e w' => e = .returned (.tuple #[.pointer none, .int .i64 2]) ∧ w = w' := by
  go_enter Tryz.func21, Tryz.ntmps21
  go_wp2_with fail
  go_ret2
  exact ⟨rfl, rfl⟩
set_option maxHeartbeats 4000000 in
theorem build_out (pg : Nat) (T : List ByteArray) (E : List GE) (o most : Int) (w : World) (hg : GA w pg T E) (ho : ¬ (0 ≤ o ∧ o < T.length)) :
    Calls Tryz.prog 21 #[.pointer (some ⟨pg, 0, none⟩), .int .i64 o, .int .i64 most] w fun e w' => e = .returned (.tuple #[.pointer none, .int .i64 2]) ∧ w = w' := by
  have hLE := len_any pg T E w hg
  obtain ⟨n, hnn⟩ : ∃ n, T.length = n := ⟨_, rfl⟩
  rw [hnn] at hLE ho
  have HLE := Aside0.mk hLE
  by_cases h0 : 0 ≤ o
  · have h1 : (n : Int) ≤ o := by omega
    have d0 : decide (o < 0) = false := decide_eq_false (by omega)
    have d1 : decide ((n : Int) ≤ o) = true := decide_eq_true h1
    clear hg ho hnn hLE
    go_enter Tryz.func21, Tryz.ntmps21
    go_wp2_with fail
    refine HLE.out.mono ?_
    rintro e w' ⟨rfl, rfl⟩
    go_wp2_with fail
    go_ret2
    exact ⟨rfl, rfl⟩
  · have h1 : o < 0 := by omega
    have d0 : decide (o < 0) = true := decide_eq_true h1
    clear hg ho hnn hLE h0
    go_enter Tryz.func21, Tryz.ntmps21
    go_wp2_with fail
    go_ret2
    exact ⟨rfl, rfl⟩
/-! the example -/
def exT : List ByteArray := [⟨#[65]⟩, ⟨#[66]⟩, ⟨#[66]⟩]
def exE : List GE := [(0, 1, 1), (0, 1, 2)]
theorem ex_right : RightG 3 exE := by unfold RightG exE; decide
theorem ex_ok : ∀ a f z, (a, f, z) ∈ exE → ok64 f := fun a f z h => by
  simp only [exE, List.mem_cons, Prod.mk.injEq, List.not_mem_nil, or_false] at h
  rcases h with ⟨_, rfl, _⟩ | ⟨_, rfl, _⟩ <;> decide
theorem ex_states : statesG exE 3 0 = [[0], [1, 2]] := by decide
theorem ex_step : stepG exE [[0], [1, 2]] 0 1 = some 1 := by decide
theorem rdE_two {w : World} {g : Nat} {a b : GE} (h : w.heap[g]? = some (.cells #[.int .i64 a.1, .int .i64 a.2.1, .int .i64 a.2.2, .int .i64 b.1, .int .i64 b.2.1, .int .i64 b.2.2] 75 (0, 0))) : RdE w (some ⟨g, 0, none⟩) [a, b] := by
  refine ⟨rfl, by simp, fun hn => ⟨_, rfl, fun j p hj => ⟨edgeC p, rfl, rfl, fun i u hu => ?_⟩⟩⟩
  rw [add_zero_off]
  refine blk_cellD h _ _ ?_
  have hi : i < 3 := by
    have : i < (edgeC p).length := by
      rcases Nat.lt_or_ge i (edgeC p).length with h | h
      · exact h
      · rw [List.getElem?_eq_none h] at hu; cases hu
    exact this
  show _[j * 3 + i]? = _
  rw [← Array.getElem?_toList]
  match j, hj with
  | 0, hj =>
    obtain rfl : a = p := by simpa using hj
    match i, hi, hu with
    | 0, _, hu => exact hu
    | 1, _, hu => exact hu
    | 2, _, hu => exact hu
  | 1, hj =>
    obtain rfl : b = p := by simpa using hj
    match i, hi, hu with
    | 0, _, hu => exact hu
    | 1, _, hu => exact hu
    | 2, _, hu => exact hu
  | j + 2, hj => simp at hj
set_option maxHeartbeats 8000000 in
set_option maxRecDepth 100000 in
theorem awake_any (w : World) (hT : TZ w) (hP : P10 w) :
    Calls Tryz.prog 18 #[] w fun e w' => e = .returned (.bool true) ∧ Below w.heap.size w w' := by
  have HT := Aside0.mk (And.intro hT hP)
  clear hT hP
  go_enter Tryz.func18, Tryz.ntmps18
  go_wp2_with fail
  obtain ⟨w1, hw1⟩ : ∃ w1, w.alloc (Obj.cells #[Value.string { data := #[65] }, Value.string { data := #[66] }, Value.string { data := #[66] }] 9) = w1 := ⟨_, rfl⟩
  rw [hw1]
  have hs1 : w1.heap.size = w.heap.size + 1 := by rw [← hw1]; exact Array.size_push ..
  have b1 : Below w.heap.size w w1 := by rw [← hw1]; exact below_alloc (Below.refl _ _) _
  have t1 : RdT w1 (some ⟨w.heap.size, 0, none⟩) exT := rdT_lit (by rw [← hw1]; exact heap_alloc_new _ _) rfl (by decide)
  obtain ⟨w2, hw2⟩ : ∃ w2, w1.alloc (Obj.cells #[Value.int .i64 0, Value.int .i64 1, Value.int .i64 1, Value.int .i64 0, Value.int .i64 1, Value.int .i64 2] 75) = w2 := ⟨_, rfl⟩
  have b2 : Below w1.heap.size w1 w2 := by rw [← hw2]; exact below_alloc (Below.refl _ _) _
  have t2 : RdE w2 (some ⟨w.heap.size + 1, 0, none⟩) exE := rdE_two (a := (0, 1, 1)) (b := (0, 1, 2)) (by rw [← hw2, ← hs1]; exact heap_alloc_new _ _)
  have t1' := t1.below b2
  have HB2 := Aside0.mk (bel_trans b1 b2)
  rw [hw2]
  have R1 := new_any (some ⟨w.heap.size, 0, none⟩) 3 exT (some ⟨w.heap.size + 1, 0, none⟩) 2 exE w2 t1' t2 (by decide) (by decide) ex_ok ex_right
  clear hs1 b1 b2 t1 t1' t2 hw1 hw2
  refine R1.mono ?_
  clear R1
  rintro e w3 ⟨p, lab, rfl, r1, r2⟩
  have HG := Aside0.mk (GA.mk ⟨lab, r1⟩)
  have HB3 := Aside0.mk (bel_trans HB2.out r2)
  clear r1 r2
  go_wp2_with fail
  refine (build_any p exT exE 0 9 w3 HG.out (HT.out.1.below HB3.out) (HT.out.2.below HB3.out) ex_right (by decide) (by decide) ex_ok (by decide) (by decide) (by decide)).mono ?_
  rintro e w4 ⟨r1, r2⟩
  rw [show exT.length = 3 from rfl, ex_states] at r2
  rcases r2 with ⟨-, pa, F, rfl, r2⟩ | ⟨r2, -⟩
  case inr => exact absurd (show (([[0], [1, 2]] : List (List Int)).length : Int) ≤ 9 by decide) r2
  have HA := Aside0.mk r2
  have HB4 := Aside0.mk (bel_trans HB3.out r1)
  clear r1 r2
  go_wp2_with fail
  refine (build_nil 0 9 w4).mono ?_
  rintro e w' ⟨rfl, rfl⟩
  go_wp2_with fail
  refine (alen_any pa p _ F _ _ w4 HA.out).mono ?_
  rintro e w' ⟨rfl, rfl⟩
  go_wp2_with fail
  refine (astate_any pa p _ F _ _ 1 w4 HA.out (by decide)).mono ?_
  rintro e w5 ⟨v, rfl, r1, r2⟩
  have HV := Aside0.mk r1
  have HB5 := Aside0.mk (bel_trans HB4.out r2)
  have HA5 := Aside0.mk (HA.out.below r2)
  clear r1 r2
  go_wp2_with fail
  obtain ⟨w6, hw6⟩ : ∃ x, w5.alloc (.cells #[.int .i64 1, .int .i64 2] 3) = x := ⟨_, rfl⟩
  rw [hw6]
  have hb6 : Below w5.heap.size w5 w6 := by rw [← hw6]; exact below_alloc (Below.refl _ _) _
  have HB6 := Aside0.mk hb6
  have T6 := Aside0.mk (show RdV w6 (.slice (some ⟨w5.heap.size, 0, none⟩) 2 2) [1, 2] from rdV_lit (l := [1, 2]) (by rw [← hw6]; exact heap_alloc_new _ _) rfl (by decide))
  clear hw6 hb6
  refine (same_any v _ [1, 2] [1, 2] w6 (HV.out.below HB6.out) T6.out).mono ?_
  rintro e w7 ⟨rfl, r2⟩
  have d1 : decide (([1, 2] : List Int) = [1, 2]) = true := rfl
  rw [d1]
  have HB7 := Aside0.mk (bel_trans HB5.out (bel_trans HB6.out r2))
  have HA7 := Aside0.mk (HA5.out.below (bel_trans HB6.out r2))
  clear d1 r2
  go_wp2_with fail
  refine (astep_any pa p _ F _ _ 0 1 w7 HA7.out (by decide) (by decide)).mono ?_
  rintro e w' ⟨rfl, rfl⟩
  rw [ex_step]
  go_wp2_with fail
  go_ret
  exact ⟨rfl, HB7.out⟩
end Go.Proofs.YtkpadjhdneiniaaGreatDoor.Am
end
