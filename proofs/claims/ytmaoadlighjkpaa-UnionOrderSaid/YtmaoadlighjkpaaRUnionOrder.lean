/- UnionOrder: for every n and every list of pairs, UnionOrder returns true and leaves its arguments as they were; no condition. -/
import Derived.Test.YtmaoadlighjkpaaOpen
import Derived.Test.YtmaoadlighjkpaaUo
namespace Go.Proofs.Ytmaoadlighjkpaa.unionOrder
open Go.ChangeShapes Go.WideShapes Go.ChangeAt Go.RowKit Go.Joins Go.Deep Go.Proofs.YtmaoadlighjkpaaW.PrintWords Go.Proofs.Ytmaoadlighjkpaa.Open Go.Proofs.Ytmaoadlighjkpaa.Base Go.Proofs.Ytmaoadlighjkpaa.Un
open Go.ChangeMaps (open_string shut_string)
set_option linter.unusedVariables false
set_option linter.unusedSimpArgs false
set_option maxRecDepth 100000 in
theorem opens_p2 : Opens Try.prog kP (fun _ => True) 81 := by
  intro H enc w base spare held fuel cs x h
  obtain ⟨xs, m, _, _, hl, hn, hat⟩ := DataW.trod_array Try.underlying81 h
  have hc : Try.prog.cellsOf 5 = 1 := by kernel_rfl
  have hc2 : Try.prog.cellsOf 81 = 2 := by kernel_rfl
  rw [hc2] at hl
  match cs, hl with
  | [c0, c1], _ =>
    have g0 := hat 0 (by decide)
    have g1 := hat 1 (by decide)
    rw [hc] at g0 g1
    obtain ⟨y0, e0⟩ : ∃ y, xs[0]? = some y := ⟨xs[0], by simp [hn]⟩
    obtain ⟨y1, e1⟩ : ∃ y, xs[1]? = some y := ⟨xs[1], by simp [hn]⟩
    rw [e0] at g0
    rw [e1] at g1
    obtain ⟨n0, k0, o0⟩ := opens_int Try.underlying5 H enc w base spare held m _ _ g0
    obtain ⟨n1, k1, o1⟩ := opens_int Try.underlying5 H enc w base spare held m _ _ g1
    have k0' : [c0] = [Value.int .u8 n0] := k0
    have k1' : [c1] = [Value.int .u8 n1] := k1
    injection k0' with k0' _
    injection k1' with k1' _
    subst k0'
    subst k1'
    exact ⟨(n0, n1), ⟨rfl, bounds_u8 o0, bounds_u8 o1⟩, trivial⟩
set_option maxRecDepth 100000 in
theorem lifted (os : Os) (started : os.Started) (H : Type) (enc : TypeId × Value → H) :
    ReturnsInHanded {} Try.checked os 13 .any (Rows.unionOrderSpec.pre6 enc Try.prog Try.f13 Rows.unionOrderRow.domain false) (Rows.unionOrderSpec.post enc Try.prog Try.f13 false true false false) := by
  refine returnsInHanded_of_change (C := Try.checked) own started (by kernel_rfl) Try.func13
    (ChangeSpec.witness6 (enc := enc) (C := Try.checked) false ⟨#[], #[.int .u8 0, .slice none 0 0], []⟩ 8 (by kernel_rfl) (by kernel_rfl) (by kernel_rfl) (by kernel_rfl)) ?_
  intro W base args ds gs before hval0 hW hcnd _
  have hval : ∀ (j : Nat) t v, Try.f13.params[j]? = some t → args[j]? = some v → Value.okWide Try.prog W .any base t v := hval0
  have hW' := hW
  obtain ⟨p, q, hA0, hV, rfl, hfz, hnd⟩ := hW
  have hA : DataW.TrodAll enc Try.prog W 0 (fun _ => true) true Try.f13.params.toList args.toList ds p := hA0
  rw [Try.params13] at hA hval
  obtain ⟨v0, vs0, d0, ds0, p0, q0, hargs, rfl, rfl, h0, r0⟩ := trodAll_cons hA
  obtain ⟨v1, vs1, d1, ds1, p1, q1, rfl, rfl, rfl, h1, r1⟩ := trodAll_cons r0
  obtain ⟨rfl, rfl, rfl⟩ := trodAll_nil r1
  obtain rfl : args = #[v0, v1] := by cases args; simp_all
  obtain ⟨rfl, rfl⟩ := trodVars_none hV
  have k0 := h0
  have lt0 := trod_lt h0
  obtain ⟨n, rfl, rfl, rfl, wn⟩ := open_int Try.underlying5 (hval 0 5 v0 rfl rfl) h0
  have wn2 := bounds_u8 wn
  have k1 := h1
  have lt1 := trod_lt h1
  obtain ⟨l, A, c, rfl, hl, hC, hok⟩ := open_sl Try.underlying76 (opens_slice Try.underlying76 (by kernel_rfl) opens_p2) (hval 1 76 v1 rfl rfl) h1
  clear hA0 hval0
  refine (unionOrder_walk n l A c W wn2.1 wn2.2 hl hC).mono fun e W' ⟨he, bel⟩ => ?_
  subst he
  exact ⟨_, rfl, _, _, _, [], _, [], hW', trodAll_mk1 (shut_bool Try.underlying4 _), (trodAll_cons_mk (Below.trod laidOut (by kernel_rfl) (of_decide_eq_true (by kernel_rfl)) k0 bel lt0) (trodAll_cons_mk (Below.trod laidOut (by kernel_rfl) (of_decide_eq_true (by kernel_rfl)) k1 bel lt1) trodAll_mk0)), rfl, bel.frame _, fun h => by cases h⟩
theorem over : Rows.unionOrderRow.holds Try.pinned (OpenSpec.ofChange Rows.unionOrderSpec) :=
  OpenClaim.holds_of_wide 13 Try.f13 rfl rfl rfl rfl rfl rfl rfl ⟨rfl, rfl, rfl, rfl, rfl⟩ rfl rfl rfl rfl rfl (by kernel_rfl) Try.func13 (by kernel_rfl)
    (of_decide_eq_true (by kernel_rfl)) (by unfold Func.isWrapper; first | (rw [if_pos (by decide +kernel)]; kernel_rfl) | (rw [if_neg (by decide +kernel)]; exact ⟨rfl, rfl⟩))
    (fun os started H enc _ => lifted os started H enc)
theorem proved : Rows.UnionOrderSaid := over
#print axioms proved
end Go.Proofs.Ytmaoadlighjkpaa.unionOrder
namespace Go.Proofs.Ytmaoadlighjkpaa
/-- The row, under a short name, for the claim. -/
theorem unionOrder_holds : Rows.UnionOrderSaid := unionOrder.proved
end Go.Proofs.Ytmaoadlighjkpaa
