/- CtxEnds: for every object and every k, CtxEnds returns true and leaves its arguments as they were; no condition. -/
import Derived.Test.YtmaoadlighjkpaaOpen
import Derived.Test.YtmaoadlighjkpaaCd
namespace Go.Proofs.Ytmaoadlighjkpaa.ctxEnds
open Go.ChangeShapes Go.WideShapes Go.ChangeAt Go.RowKit Go.Joins Go.Deep Go.Proofs.YtmaoadlighjkpaaW.PrintWords Go.Proofs.Ytmaoadlighjkpaa.Open Go.Proofs.Ytmaoadlighjkpaa.Base Go.Proofs.Ytmaoadlighjkpaa.Ca
open Go.ChangeMaps (open_string shut_string)
set_option linter.unusedVariables false
set_option linter.unusedSimpArgs false
theorem opens_obj : Opens Try.prog (Kd.pair (Kd.int .i64) (Kd.slice 3 (Kd.int .i64))) (fun x => (Lit.int .i64 x.1).wf = true ∧ ∀ y ∈ x.2, (Lit.int .i64 y).wf = true) 26 :=
  opens_two Try.underlying26 (by kernel_rfl) (by kernel_rfl) (opens_int Try.underlying3) (opens_slice Try.underlying22 (by kernel_rfl) (opens_int Try.underlying3))
set_option maxRecDepth 100000 in
theorem lifted (os : Os) (started : os.Started) (H : Type) (enc : TypeId × Value → H) :
    ReturnsInHanded {} Try.checked os 4 .any (Rows.ctxEndsSpec.pre6 enc Try.prog Try.f4 Rows.ctxEndsRow.domain false) (Rows.ctxEndsSpec.post enc Try.prog Try.f4 false true false false) := by
  refine returnsInHanded_of_change (C := Try.checked) own started (by kernel_rfl) Try.func4
    (ChangeSpec.witness6 (enc := enc) (C := Try.checked) false ⟨#[], #[.agg #[.int .i64 0, .slice none 0 0], .int .u8 0], []⟩ 8 (by kernel_rfl) (by kernel_rfl) (by kernel_rfl) (by kernel_rfl)) ?_
  intro W base args ds gs before hval0 hW hcnd _
  have hval : ∀ (j : Nat) t v, Try.f4.params[j]? = some t → args[j]? = some v → Value.okWide Try.prog W .any base t v := hval0
  have hW' := hW
  obtain ⟨p, q, hA0, hV, rfl, hfz, hnd⟩ := hW
  have hA : DataW.TrodAll enc Try.prog W 0 (fun _ => true) true Try.f4.params.toList args.toList ds p := hA0
  rw [Try.params4] at hA hval
  obtain ⟨v0, vs0, d0, ds0, p0, q0, hargs, rfl, rfl, h0, r0⟩ := trodAll_cons hA
  obtain ⟨v1, vs1, d1, ds1, p1, q1, rfl, rfl, rfl, h1, r1⟩ := trodAll_cons r0
  obtain ⟨rfl, rfl, rfl⟩ := trodAll_nil r1
  obtain rfl : args = #[v0, v1] := by cases args; simp_all
  obtain ⟨rfl, rfl⟩ := trodVars_none hV
  have k0 := h0
  have lt0 := trod_lt h0
  obtain ⟨x, cs, rfl, ⟨c0, c1, hcs, hc0, A, c, hc1, hl, hC⟩, hok⟩ := open_st Try.underlying26 opens_obj (hval 0 26 v0 rfl rfl) h0
  rw [hc0, hc1] at hcs
  obtain ⟨cs⟩ := cs
  obtain rfl : cs = [.int .i64 x.1, .slice A x.2.length c] := hcs
  have k1 := h1
  have lt1 := trod_lt h1
  obtain ⟨k, rfl, rfl, rfl, wk⟩ := open_int Try.underlying5 (hval 1 5 v1 rfl rfl) h1
  have wk2 := bounds_u8 wk
  clear hA0 hval0
  refine (ctxEnds_walk x.1 k _ x.2 W (RdI.toV ⟨hC⟩ hl) wk2.1 wk2.2).mono fun e W' ⟨he, bel⟩ => ?_
  subst he
  exact ⟨_, rfl, _, _, _, [], _, [], hW', trodAll_mk1 (shut_bool Try.underlying4 _), (trodAll_cons_mk (Below.trod laidOut (by kernel_rfl) (of_decide_eq_true (by kernel_rfl)) k0 bel lt0) (trodAll_cons_mk (Below.trod laidOut (by kernel_rfl) (of_decide_eq_true (by kernel_rfl)) k1 bel lt1) trodAll_mk0)), rfl, bel.frame _, fun h => by cases h⟩
theorem over : Rows.ctxEndsRow.holds Try.pinned (OpenSpec.ofChange Rows.ctxEndsSpec) :=
  OpenClaim.holds_of_wide 4 Try.f4 rfl rfl rfl rfl rfl rfl rfl ⟨rfl, rfl, rfl, rfl, rfl⟩ rfl rfl rfl rfl rfl (by kernel_rfl) Try.func4 (by kernel_rfl)
    (of_decide_eq_true (by kernel_rfl)) (by unfold Func.isWrapper; first | (rw [if_pos (by decide +kernel)]; kernel_rfl) | (rw [if_neg (by decide +kernel)]; exact ⟨rfl, rfl⟩))
    (fun os started H enc _ => lifted os started H enc)
theorem proved : Rows.CtxEndsSaid := over
#print axioms proved
end Go.Proofs.Ytmaoadlighjkpaa.ctxEnds
namespace Go.Proofs.Ytmaoadlighjkpaa
/-- The row, under a short name, for the claim. -/
theorem ctxEnds_holds : Rows.CtxEndsSaid := ctxEnds.proved
end Go.Proofs.Ytmaoadlighjkpaa
