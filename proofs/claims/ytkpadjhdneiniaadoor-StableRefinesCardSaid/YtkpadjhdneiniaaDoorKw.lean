/- The document's example of stable: awake. -/
import Derived.Test.YtkpadjhdneiniaaDoorKv
import Derived.Test.YtkpadjhdneiniaaDoorKq
import Derived.Test.YtkpadjhdneiniaaDoorKr
namespace Go.Proofs.YtkpadjhdneiniaaDoor.Sb
set_option linter.unusedVariables false
open Go.RowKit Go.Proofs.YtkpadjhdneiniaaDoorW.PrintWords Go.Proofs.YtkpadjhdneiniaaDoorW.PrintLast Go.Proofs.YtkpadjhdneiniaaDoorW.PrintMore Go.Maps
open Go.Proofs.YtkpadjhdneiniaaDoor.Base Go.Proofs.YtkpadjhdneiniaaDoor.Map Go.Proofs.YtkpadjhdneiniaaDoor.Sl Go.Proofs.YtkpadjhdneiniaaDoor.Ow Go.Proofs.YtkpadjhdneiniaaDoor.Se Go.Proofs.YtkpadjhdneiniaaDoor.Gr Go.Proofs.YtkpadjhdneiniaaDoor.Rf Go.Proofs.YtkpadjhdneiniaaDoor.Tx Go.Proofs.YtkpadjhdneiniaaDoor.St

def exT : List ByteArray := [⟨#[65]⟩, ⟨#[65]⟩, ⟨#[66]⟩]
def exE : List GE := [(0, 5, 2)]
theorem ex_right : RightG 3 exE := by unfold RightG exE; decide
theorem ex_ok : ∀ a f z, (a, f, z) ∈ exE → ok64 f := fun a f z h => by
  simp only [exE, List.mem_singleton, Prod.mk.injEq] at h; obtain ⟨_, rfl, _⟩ := h; decide
theorem ex_okx : ∀ a f z, (a, f, z) ∈ exE → ok64 a := fun a f z h => by
  simp only [exE, List.mem_singleton, Prod.mk.injEq] at h; obtain ⟨rfl, _, _⟩ := h; decide
theorem lt3 {i : Nat} (h : i < 3) : i = 0 ∨ i = 1 ∨ i = 2 := by omega
theorem ex_rightM : RightM exT [0, 0, 2] := ⟨rfl, fun i hi => by
  rcases lt3 hi with rfl | rfl | rfl <;> (unfold OkM cl typeG exT; decide)⟩
theorem ex_m0 : marksG exE [0, 0, 2] 0 = [(5, 2)] := by decide
theorem ex_m1 : marksG exE [0, 0, 2] 1 = [] := by decide
theorem ex_m2 : marksG exE [0, 0, 2] 2 = [] := by decide
theorem ex_split : SplitOf 3 exE [0, 0, 2] [0, 1, 2] := ⟨rfl, fun i hi => by
  rcases lt3 hi with rfl | rfl | rfl
  · exact ⟨0, rfl, by omega, ⟨rfl, rfl⟩, fun k hk => absurd hk (by omega)⟩
  · refine ⟨1, rfl, by omega, ⟨rfl, rfl⟩, fun k hk h => ?_⟩
    obtain rfl : k = 0 := by omega
    have h2 : marksG exE [0, 0, 2] 0 = marksG exE [0, 0, 2] 1 := h.2
    rw [ex_m0, ex_m1] at h2; cases h2
  · refine ⟨2, rfl, by omega, ⟨rfl, rfl⟩, fun k hk h => ?_⟩
    have h1 := h.1
    rcases (show k = 0 ∨ k = 1 by omega) with rfl | rfl <;> exact absurd h1 (by decide)⟩
theorem ex_ref {out : List Int} (h : IsRef 3 exE [0, 0, 2] out) : out = [0, 1, 2] := by
  refine h.unique (((Part.start ex_rightM.hd).split ex_right ex_split).done ex_right fun i hi => ?_)
  rcases lt3 hi with rfl | rfl | rfl <;> rfl
set_option maxHeartbeats 8000000 in
set_option maxRecDepth 100000 in
theorem awake_any (w : World) (hT : TZ w) (hP : P10 w) :
    Calls Tryd.prog 7 #[] w fun e w' => e = .returned (.bool true) ∧ Below w.heap.size w w' := by
  have HT := Aside0.mk (And.intro hT hP)
  clear hT hP
  go_enter Tryd.func7, Tryd.ntmps7
  go_wp2_with fail
  obtain ⟨w1, hw1⟩ : ∃ w1, w.alloc (Obj.cells #[Value.string { data := #[65] }, Value.string { data := #[65] }, Value.string { data := #[66] }] 9) = w1 := ⟨_, rfl⟩
  rw [hw1]
  have hs1 : w1.heap.size = w.heap.size + 1 := by rw [← hw1]; exact Array.size_push ..
  have b1 : Below w.heap.size w w1 := by rw [← hw1]; exact below_alloc (Below.refl _ _) _
  have t1 : RdT w1 (some ⟨w.heap.size, 0, none⟩) exT := rdT_lit (by rw [← hw1]; exact heap_alloc_new _ _) rfl (by decide)
  obtain ⟨w2, hw2⟩ : ∃ w2, w1.alloc (Obj.cells #[Value.int .i64 0, Value.int .i64 5, Value.int .i64 2] 44) = w2 := ⟨_, rfl⟩
  have b2 : Below w1.heap.size w1 w2 := by rw [← hw2]; exact below_alloc (Below.refl _ _) _
  have t2 : RdE w2 (some ⟨w.heap.size + 1, 0, none⟩) exE := rdE_lit (e := (0, 5, 2)) (by rw [← hw2, ← hs1]; exact heap_alloc_new _ _)
  have t1' := t1.below b2
  have HB2 := Aside0.mk (bel_trans b1 b2)
  rw [hw2]
  have R1 := new_any (some ⟨w.heap.size, 0, none⟩) 3 exT (some ⟨w.heap.size + 1, 0, none⟩) 1 exE w2 t1' t2 (by decide) (by decide) ex_ok ex_right
  clear hs1 b1 b2 t1 t1' t2 hw1 hw2
  refine R1.mono ?_
  clear R1
  rintro e w3 ⟨p, lab, rfl, r1, r2⟩
  have HG := Aside0.mk (GA.mk ⟨lab, r1⟩)
  have HB3 := Aside0.mk (bel_trans HB2.out r2)
  clear r1 r2
  go_wp2_with fail
  obtain ⟨w4, hw4⟩ : ∃ x, w3.alloc (.cells #[.int .i64 0, .int .i64 0, .int .i64 2] 3) = x := ⟨_, rfl⟩
  rw [hw4]
  have HB4 := Aside0.mk (show Below w3.heap.size w3 w4 by rw [← hw4]; exact below_alloc (Below.refl _ _) _)
  have T4 := Aside0.mk (show RdV w4 (.slice (some ⟨w3.heap.size, 0, none⟩) 3 3) [0, 0, 2] from rdV_lit (l := [0, 0, 2]) (by rw [← hw4]; exact heap_alloc_new _ _) rfl (by decide))
  have HBw := Aside0.mk (bel_trans HB3.out HB4.out)
  clear hw4
  refine (refine_any p exT exE _ [0, 0, 2] w4 (HG.out.below HB4.out) (HT.out.1.below HBw.out) (HT.out.2.below HBw.out) T4.out ex_right ex_ok ex_okx (by decide)).mono ?_
  rintro e w5 ⟨r1, ⟨-, v, out, rfl, r2, r3⟩ | ⟨r2, -⟩⟩
  case inr => exact absurd ex_rightM r2
  rw [ex_ref r3] at r2
  have HV := Aside0.mk r2
  have HB5 := Aside0.mk (bel_trans HBw.out r1)
  clear r1 r2 r3
  go_wp2_with fail
  obtain ⟨w6, hw6⟩ : ∃ x, w5.alloc (.cells #[.int .i64 0, .int .i64 1, .int .i64 2] 3) = x := ⟨_, rfl⟩
  rw [hw6]
  have HB6 := Aside0.mk (show Below w5.heap.size w5 w6 by rw [← hw6]; exact below_alloc (Below.refl _ _) _)
  have T6 := Aside0.mk (show RdV w6 (.slice (some ⟨w5.heap.size, 0, none⟩) 3 3) [0, 1, 2] from rdV_lit (l := [0, 1, 2]) (by rw [← hw6]; exact heap_alloc_new _ _) rfl (by decide))
  clear hw6
  refine (same_any v _ [0, 1, 2] [0, 1, 2] w6 (HV.out.below HB6.out) T6.out).mono ?_
  rintro e w7 ⟨rfl, r2⟩
  have d1 : decide (([0, 1, 2] : List Int) = [0, 1, 2]) = true := rfl
  rw [d1]
  have HB7 := Aside0.mk (bel_trans HB5.out (bel_trans HB6.out r2))
  clear d1 r2
  go_wp2_with fail
  go_ret
  exact ⟨rfl, HB7.out⟩
end Go.Proofs.YtkpadjhdneiniaaDoor.Sb
