/- CtxNumbers: for every list of objects and every number, CtxNumbers returns true and leaves its arguments as they were; no condition. -/
import Derived.Test.YtmaoadlighjkpaaOpen
import Derived.Test.YtmaoadlighjkpaaKw
namespace Go.Proofs.Ytmaoadlighjkpaa.ctxNumbers
open Go.ChangeShapes Go.WideShapes Go.ChangeAt Go.RowKit Go.Joins Go.Deep Go.Proofs.YtmaoadlighjkpaaW.PrintWords Go.Proofs.Ytmaoadlighjkpaa.Open Go.Proofs.Ytmaoadlighjkpaa.Base Go.Proofs.Ytmaoadlighjkpaa.Kx
open Go.ChangeMaps (open_string shut_string)
set_option linter.unusedVariables false
set_option linter.unusedSimpArgs false
theorem opens_obj : Opens Try.prog (Kd.pair (Kd.int .i64) (Kd.slice 3 (Kd.int .i64))) (fun x => (Lit.int .i64 x.1).wf = true ∧ ∀ y ∈ x.2, (Lit.int .i64 y).wf = true) 26 :=
  opens_two Try.underlying26 (by kernel_rfl) (by kernel_rfl) (opens_int Try.underlying3) (opens_slice Try.underlying22 (by kernel_rfl) (opens_int Try.underlying3))
theorem opens_k26 : Opens Try.prog PCtxNumbers.k26 (fun x => (Lit.int .i64 x.f0).wf = true ∧ ∀ y ∈ x.f1, (Lit.int .i64 y).wf = true) 26 := by
  intro H enc w base spare held fuel cs x h
  obtain ⟨a, hK, hok⟩ := opens_obj H enc w base spare held fuel cs x h
  exact ⟨⟨a.1, a.2⟩, hK, hok⟩
set_option maxRecDepth 100000 in
theorem lifted (os : Os) (started : os.Started) (H : Type) (enc : TypeId × Value → H) :
    ReturnsInHanded {} Try.checked os 15 .any (Rows.ctxNumbersSpec.pre6 enc Try.prog Try.f15 Rows.ctxNumbersRow.domain false) (Rows.ctxNumbersSpec.post enc Try.prog Try.f15 false true false false) := by
  refine returnsInHanded_of_change (C := Try.checked) own started (by kernel_rfl) Try.func15
    (ChangeSpec.witness6 (enc := enc) (C := Try.checked) false ⟨#[], #[.slice none 0 0, .int .i64 0], []⟩ 8 (by kernel_rfl) (by kernel_rfl) (by kernel_rfl) (by kernel_rfl)) ?_
  intro W base args ds gs before hval0 hW hcnd _
  have hval : ∀ (j : Nat) t v, Try.f15.params[j]? = some t → args[j]? = some v → Value.okWide Try.prog W .any base t v := hval0
  have hW' := hW
  obtain ⟨p, q, hA0, hV, rfl, hfz, hnd⟩ := hW
  have hA : DataW.TrodAll enc Try.prog W 0 (fun _ => true) true Try.f15.params.toList args.toList ds p := hA0
  rw [Try.params15] at hA hval
  obtain ⟨v0, vs0, d0, ds0, p0, q0, hargs, rfl, rfl, h0, r0⟩ := trodAll_cons hA
  obtain ⟨v1, vs1, d1, ds1, p1, q1, rfl, rfl, rfl, h1, r1⟩ := trodAll_cons r0
  obtain ⟨rfl, rfl, rfl⟩ := trodAll_nil r1
  obtain rfl : args = #[v0, v1] := by cases args; simp_all
  obtain ⟨rfl, rfl⟩ := trodVars_none hV
  have k0 := h0
  have lt0 := trod_lt h0
  obtain ⟨l, A, c, rfl, hl, hC, hok⟩ := open_sl Try.underlying88 (opens_slice Try.underlying88 (by kernel_rfl) opens_k26) (hval 0 88 v0 rfl rfl) h0
  have k1 := h1
  have lt1 := trod_lt h1
  obtain ⟨k, rfl, rfl, rfl, wk⟩ := open_int Try.underlying3 (hval 1 3 v1 rfl rfl) h1
  clear hA0 hval0
  refine (ctxNumbers_walk l k A c W hl hC hok).mono fun e W' ⟨he, bel⟩ => ?_
  subst he
  exact ⟨_, rfl, _, _, _, [], _, [], hW', trodAll_mk1 (shut_bool Try.underlying4 _), (trodAll_cons_mk (Below.trod laidOut (by kernel_rfl) (of_decide_eq_true (by kernel_rfl)) k0 bel lt0) (trodAll_cons_mk (Below.trod laidOut (by kernel_rfl) (of_decide_eq_true (by kernel_rfl)) k1 bel lt1) trodAll_mk0)), rfl, bel.frame _, fun h => by cases h⟩
theorem over : Rows.ctxNumbersRow.holds Try.pinned (OpenSpec.ofChange Rows.ctxNumbersSpec) :=
  OpenClaim.holds_of_wide 15 Try.f15 rfl rfl rfl rfl rfl rfl rfl ⟨rfl, rfl, rfl, rfl, rfl⟩ rfl rfl rfl rfl rfl (by kernel_rfl) Try.func15 (by kernel_rfl)
    (of_decide_eq_true (by kernel_rfl)) (by unfold Func.isWrapper; first | (rw [if_pos (by decide +kernel)]; kernel_rfl) | (rw [if_neg (by decide +kernel)]; exact ⟨rfl, rfl⟩))
    (fun os started H enc _ => lifted os started H enc)
theorem proved : Rows.CtxNumbersSaid := over
#print axioms proved
end Go.Proofs.Ytmaoadlighjkpaa.ctxNumbers
namespace Go.Proofs.Ytmaoadlighjkpaa
/-- The row, under a short name, for the claim. -/
theorem ctxNumbers_holds : Rows.CtxNumbersSaid := ctxNumbers.proved
end Go.Proofs.Ytmaoadlighjkpaa
