/- stable.Refine. -/
import Derived.Test.YtkpadjhdneiniaaDoorKp
namespace Go.Proofs.YtkpadjhdneiniaaDoor.Sb
set_option linter.unusedVariables false
open Go.RowKit Go.Proofs.YtkpadjhdneiniaaDoorW.PrintWords Go.Proofs.YtkpadjhdneiniaaDoorW.PrintLast Go.Proofs.YtkpadjhdneiniaaDoorW.PrintMore Go.Maps
open Go.Proofs.YtkpadjhdneiniaaDoor.Base Go.Proofs.YtkpadjhdneiniaaDoor.Map Go.Proofs.YtkpadjhdneiniaaDoor.Sl Go.Proofs.YtkpadjhdneiniaaDoor.Ow Go.Proofs.YtkpadjhdneiniaaDoor.Se Go.Proofs.YtkpadjhdneiniaaDoor.Gr Go.Proofs.YtkpadjhdneiniaaDoor.Rf Go.Proofs.YtkpadjhdneiniaaDoor.Tx Go.Proofs.YtkpadjhdneiniaaDoor.St Go.Proofs.YtkpadjhdneiniaaDoor.Ky

/-- what Refine hands back -/
def RefineSaid (T : List ByteArray) (E : List GE) (tm : List Int) (w : World) (e : Ending) (w' : World) : Prop :=
  Below w.heap.size w w' ∧ ((RightM T tm ∧ ∃ v out, e = .returned (.tuple #[v, .int .i64 0]) ∧ RdV w' v out ∧ IsRef T.length E tm out) ∨ (¬ RightM T tm ∧ e = .returned (.tuple #[.slice none 0 0, .int .i64 2])))
set_option maxHeartbeats 16000000 in
set_option maxRecDepth 100000 in
theorem refine_any (p : Nat) (T : List ByteArray) (E : List GE) (u : Value) (tm : List Int) (w : World) (hG : GA w p T E) (hT : TZ w) (hP : P10 w) (hu : RdV w u tm) (hR : RightG T.length E) (hok : ∀ a f z, (a, f, z) ∈ E → ok64 f) (hoa : ∀ a f z, (a, f, z) ∈ E → ok64 a)
    (hl : T.length ≤ 1000 ∧ E.length ≤ 1000) :
    Calls Tryd.prog 10 #[.pointer (some ⟨p, 0, none⟩), u] w (RefineSaid T E tm w) := by
  have HRM := Aside0.mk (mright_any p T E u tm w hG hu (by omega))
  have HU := Aside0.mk hu
  by_cases hM : RightM T tm
  case neg =>
    have d1 := decide_eq_false hM
    rw [d1] at HRM
    have HM := Aside0.mk hM
    clear d1 hM hG hT hR hok hoa hP hu
    go_enter Tryd.func10, Tryd.ntmps10
    go_wp2_with fail
    refine HRM.out.mono ?_
    rintro e w1 ⟨rfl, r1⟩
    have HB1 := Aside0.mk r1
    clear r1
    go_wp2_with fail
    go_ret2
    exact ⟨HB1.out, .inr ⟨HM.out, rfl⟩⟩
  have d1 := decide_eq_true hM
  rw [d1] at HRM
  have HM := Aside0.mk hM
  have HRg := Aside0.mk hR
  have HSp := Aside0.mk (fun (W : World) (hb : Below w.heap.size w W) (v : Value) (out : List Int) (hv : RdV W v out) (hd : Hd T.length out) => split_any p T E v out W (hG.below hb) (hT.below hb) (hP.below hb) hv hR hd hok hoa hl)
  have HCl := Aside0.mk (fun (W : World) (hb : Below w.heap.size w W) => clone_any u tm W (hu.below hb) (by have := hM.1; omega))
  clear d1 hM hG hT hR hok hoa hP hu hl
  go_enter Tryd.func10, Tryd.ntmps10
  go_wp2_with fail
  refine HRM.out.mono ?_
  rintro e w1 ⟨rfl, r1⟩
  have HB1 := Aside0.mk r1
  clear r1
  go_wp2_with fail
  refine (HCl.out w1 HB1.out).mono ?_
  rintro e w2 ⟨v, rfl, r1, r2⟩
  have HV := Aside0.mk (OwI.toV r1)
  have HB2 := Aside0.mk (bel_trans HB1.out r2)
  clear r1 r2
  go_wp2_with fail
  go_loopg [6, 7] (far tm T.length + 1) (fun kq V G wx => ∃ (out : List Int) (ag : Bool), G = .bool ag ∧ Aside0 (RdV wx V out) ∧ Aside0 (Part T.length E tm out) ∧ Aside0 (ag = false → Stab T.length E out) ∧ Aside0 (far out T.length + (if ag then 1 else 0) ≤ kq) ∧ Aside0 (Below w.heap.size w wx))
  case atStart => exact ⟨tm, true, rfl, HV, ⟨Part.start HM.out.hd⟩, ⟨fun h => by cases h⟩, ⟨by simp⟩, HB2⟩
  case round =>
    obtain ⟨out, ag, rfl, HV, HI, HS, HK, HB⟩ := hrel
    cases ag with
    | false =>
      go_wp2_with fail
      go_ret2
      exact ⟨HB.out, .inl ⟨HM.out, _, _, rfl, HV.out, HI.out.done HRg.out (HS.out trivial)⟩⟩
    | true =>
      clear HS
      go_wp2_with fail
      refine (HSp.out wr HB.out u6 out HV.out HI.out.hd).mono ?_
      rintro e w3 ⟨v3, o3, rfl, r1, r2, r3⟩
      have HV3 := Aside0.mk r1
      have HS3 := Aside0.mk r2
      have HB3 := Aside0.mk (bel_trans HB.out r3)
      clear r1 r2 r3
      by_cases he : o3 = out
      · subst he
        have d : decide (o3 = o3) = true := decide_eq_true rfl
        rw [d]
        have HSt := Aside0.mk (Part.same HI.out.hd HS3.out)
        clear d
        go_wp2_with fail
        go_roundg (far o3 T.length)
        case measure => have h1 := HK.out; simp at h1; omega
        case rel => exact ⟨o3, false, rfl, HV3, HI, ⟨fun _ => HSt.out⟩, ⟨by simp⟩, HB3⟩
      · have d : decide (o3 = out) = false := decide_eq_false he
        rw [d]
        have Hf := Aside0.mk (split_far HI.out.hd HS3.out he)
        have HI3 := Aside0.mk (HI.out.split HRg.out HS3.out)
        clear d he
        go_wp2_with fail
        go_roundg (far o3 T.length + 1)
        case measure => have h1 := HK.out; have h2 := Hf.out; simp at h1; omega
        case rel => exact ⟨o3, true, rfl, HV3, HI3, ⟨fun h => by cases h⟩, ⟨by simp⟩, HB3⟩
end Go.Proofs.YtkpadjhdneiniaaDoor.Sb
