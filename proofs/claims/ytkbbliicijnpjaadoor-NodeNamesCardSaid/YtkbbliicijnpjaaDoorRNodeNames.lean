/- NodeNames: for all contexts, objects and every node, NodeNames returns true and leaves its arguments as they were; the library's three tables hold what their initialisers lay (tied). -/
import Derived.Test.YtkbbliicijnpjaaDoorOpen
import Derived.Test.YtkbbliicijnpjaaDoorXe
import Derived.Test.YtkbbliicijnpjaaDoorVj
import Derived.Test.YtkbbliicijnpjaaDoorTf
import Derived.Test.YtkbbliicijnpjaaDoorTie
import Derived.Test.YtkbbliicijnpjaaDoorCards
import Derived.LaidMore
import Derived.Stop.Joined
import Derived.SevenTiedAt
namespace Go.Proofs.YtkbbliicijnpjaaDoor.nodeNames
open Go.ChangeShapes Go.WideShapes Go.ChangeAt Go.RowKit Go.Joins Go.Deep Go.Proofs.YtkbbliicijnpjaaDoorW.PrintWords Go.Proofs.YtkbbliicijnpjaaDoor.Open Go.Proofs.YtkbbliicijnpjaaDoor.Base Go.Proofs.YtkbbliicijnpjaaDoor.Ca Go.Proofs.YtkbbliicijnpjaaDoor.Tx Go.Proofs.YtkbbliicijnpjaaDoor.PNodeIds
open Go.ChangeMaps (open_string shut_string)
set_option linter.unusedVariables false
set_option linter.unusedSimpArgs false
abbrev laidL : List (String × DataW Unit) := [("math/bits.deBruijn32tab", Rows.laid_math_bits_deBruijn32tab), ("math/bits.deBruijn64tab", Rows.laid_math_bits_deBruijn64tab), ("internal/strconv.uint64pow10", Rows.laid_internal_strconv_uint64pow10)]
theorem opens_obj : Opens Tryd.prog (Kd.pair (Kd.int .i64) (Kd.slice 3 (Kd.int .i64))) (fun x => (Lit.int .i64 x.1).wf = true ∧ ∀ y ∈ x.2, (Lit.int .i64 y).wf = true) 36 :=
  opens_two Tryd.underlying36 (by kernel_rfl) (by kernel_rfl) (opens_int Tryd.underlying3) (opens_slice Tryd.underlying34 (by kernel_rfl) (opens_int Tryd.underlying3))
theorem opens_objs : Opens Tryd.prog (Kd.slice 36 (Kd.pair (Kd.int .i64) (Kd.slice 3 (Kd.int .i64)))) (fun l => ∀ x ∈ l, (Lit.int .i64 x.1).wf = true ∧ ∀ y ∈ x.2, (Lit.int .i64 y).wf = true) 44 := opens_slice Tryd.underlying44 (by kernel_rfl) opens_obj
theorem opens_lists : Opens Tryd.prog (Kd.slice 34 (Kd.slice 3 (Kd.int .i64))) (fun l => ∀ x ∈ l, ∀ y ∈ x, (Lit.int .i64 y).wf = true) 43 := opens_slice Tryd.underlying43 (by kernel_rfl) (opens_slice Tryd.underlying34 (by kernel_rfl) (opens_int Tryd.underlying3))
/-- The door's own heap meets the condition. -/
theorem door_met (os : Os) (args : Array Value) : laidMetH Tryd.prog laidL ((World.doorLaid Tryd.prog 4000 os).forCall (fun _ _ => 0) ⟨#[], args, []⟩).memory :=
  laidMetH_of_parts3 (fuel := 8) (laidMet_of_run' 8 (by kernel_rfl) (by kernel_rfl)) (by kernel_rfl) (by kernel_rfl)
set_option maxRecDepth 100000 in
theorem lifted (os : Os) (started : os.Started) (H : Type) (enc : TypeId × Value → H) :
    ReturnsInHanded {} Tryd.checked os 5 .any (fun w args => (Rows.nodeNamesSpec.pre enc Tryd.prog Tryd.f5 [] false w args ∧ laidMetH Tryd.prog laidL w) ∧ sizedMet enc Tryd.prog Tryd.f5 (OpenSpec.ofChange Rows.nodeNamesSpec) false w args)
      (Rows.nodeNamesSpec.post enc Tryd.prog Tryd.f5 false true false false) := by
  refine returnsInHanded_of_change_and (C := Tryd.checked) (X := fun w _ => laidMetH Tryd.prog laidL w) (fun _ _ _ hh h => h.of_heap hh) own started (by kernel_rfl) Tryd.func5
    (ChangeSpec.witness_shaped (enc := enc) (C := Tryd.checked) (os := os) (X := fun w _ => laidMetH Tryd.prog laidL w) false (World.doorLaid Tryd.prog 4000 os) #[.slice none 0 0, .slice none 0 0, .agg #[.int .i64 0, .int .i64 0, .int .i64 0, .int .i64 0]] 8 rfl (World.shaped_of_RefB (by kernel_rfl) (by kernel_rfl)) (by kernel_rfl) (by kernel_rfl) (by kernel_rfl) (door_met os _)) ?_
  intro W base args ds gs before hval0 hW _ _ hL _
  have hval : ∀ (j : Nat) t v, Tryd.f5.params[j]? = some t → args[j]? = some v → Value.okWide Tryd.prog W .any base t v := hval0
  have hW' := hW
  obtain ⟨p, q, hA0, hV, rfl, hfz, hnd⟩ := hW
  have hA : DataW.TrodAll enc Tryd.prog W 0 (fun _ => true) true Tryd.f5.params.toList args.toList ds p := hA0
  rw [Tryd.params5] at hA hval
  obtain ⟨v0, vs0, d0, ds0, p0, q0, hargs, rfl, rfl, h0, r0⟩ := trodAll_cons hA
  obtain ⟨v1, vs1, d1, ds1, p1, q1, rfl, rfl, rfl, h1, r1⟩ := trodAll_cons r0
  obtain ⟨v2, vs2, d2, ds2, p2, q2, rfl, rfl, rfl, h2, r2⟩ := trodAll_cons r1
  obtain ⟨rfl, rfl, rfl⟩ := trodAll_nil r2
  obtain rfl : args = #[v0, v1, v2] := by cases args; simp_all
  obtain ⟨rfl, rfl⟩ := trodVars_none hV
  have k0 := h0
  have lt0 := trod_lt h0
  obtain ⟨l, A, c, rfl, hc, hC, hok⟩ := open_sl Tryd.underlying43 opens_lists (hval 0 43 v0 rfl rfl) h0
  have k1 := h1
  have lt1 := trod_lt h1
  obtain ⟨m, B, d, rfl, hd, hCm, hokm⟩ := open_sl Tryd.underlying44 opens_objs (hval 1 44 v1 rfl rfl) h1
  have k2 := h2
  have lt2 := trod_lt h2
  obtain ⟨y, cs, rfl, hK, hoy⟩ := open_st Tryd.underlying46 opens_node (hval 2 46 v2 rfl rfl) h2
  obtain ⟨cs⟩ := cs
  obtain rfl : cs = [.int .i64 y.f0, .int .i64 y.f1, .int .i64 y.f2, .int .i64 y.f3] := k46_open hK
  have hP := p10_of_laid hL
  clear hA0 hval0
  refine (nodeNames_walk A l c B m d y.f0 y.f1 y.f2 y.f3 W hC hc hCm hd hP hok hokm hoy.1 hoy.2.1 hoy.2.2).mono fun e W' ⟨he, bel⟩ => ?_
  subst he
  exact ⟨_, rfl, _, _, _, [], _, [], hW', trodAll_mk1 (shut_bool Tryd.underlying4 _), (trodAll_cons_mk (Below.trod laidOut (by kernel_rfl) (of_decide_eq_true (by kernel_rfl)) k0 bel lt0) (trodAll_cons_mk (Below.trod laidOut (by kernel_rfl) (of_decide_eq_true (by kernel_rfl)) k1 bel lt1) (trodAll_cons_mk (Below.trod laidOut (by kernel_rfl) (of_decide_eq_true (by kernel_rfl)) k2 bel lt2) trodAll_mk0))), rfl, bel.frame _, fun h => by cases h⟩
theorem over : Rows.NodeNamesSaid :=
  OpenClaim.holds_of_wide 5 Tryd.f5 rfl rfl rfl rfl rfl rfl rfl ⟨rfl, rfl, rfl, rfl, rfl⟩ rfl rfl rfl rfl rfl (by kernel_rfl) Tryd.func5 (by kernel_rfl)
    (of_decide_eq_true (by kernel_rfl)) (by unfold Func.isWrapper; first | (rw [if_pos (by decide +kernel)]; kernel_rfl) | (rw [if_neg (by decide +kernel)]; exact ⟨rfl, rfl⟩))
    (fun os started H enc _ => lifted os started H enc)
theorem card_holds : Rows.NodeNamesCardSaid :=
  Claim7.holds_tied_plain_at .later [] [.data, .data, .data] true (true, "f9f459dcc0148a3480b3335b6158e32a792bd1f5660da48ff2e415b3551d9728") true
    over (fun _ h => by cases h) (by kernel_rfl) (fun _ h => by cases h) nodeNames_row_tie rfl ⟨rfl, rfl⟩ (by kernel_rfl) rfl
    (fun f fn hf hfn => by
      obtain rfl : f = 5 := Option.some.inj ((show Tryd.prog.funcNamed "winnower/winnowerlaw17.NodeNames" = some 5 by kernel_rfl).symm.trans hf) |>.symm
      obtain rfl : fn = Tryd.f5 := (Option.some.inj (Tryd.func5.symm.trans hfn)).symm
      exact ⟨by kernel_rfl, fun j t ht => by
        rw [Tryd.params5] at ht
        have hm : t ∈ [43, 44, 46] := by simpa using Array.mem_of_getElem? ht
        have hall : ([43, 44, 46].all fun u => !Tryd.prog.wantsStandIn u) = true := by kernel_rfl
        exact (show Tryd.prog.wantsStandIn t = false by simpa using List.all_eq_true.1 hall t hm)⟩)
    (by kernel_rfl)
#print axioms card_holds
end Go.Proofs.YtkbbliicijnpjaaDoor.nodeNames
namespace Go.Proofs.YtkbbliicijnpjaaDoor
/-- The card, under a short name, for the claim. -/
theorem nodeNames_holds : Rows.NodeNamesCardSaid := nodeNames.card_holds
end Go.Proofs.YtkbbliicijnpjaaDoor
