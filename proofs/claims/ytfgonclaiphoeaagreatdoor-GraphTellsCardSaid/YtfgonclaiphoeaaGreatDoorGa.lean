/- graph.Graph: the maps' keys. -/
import Derived.Test.YtfgonclaiphoeaaGreatDoorSj
import Derived.DeepKeys4
namespace Go.Proofs.YtfgonclaiphoeaaGreatDoor.Gr
set_option linter.unusedVariables false
open Go.RowKit Go.Proofs.YtfgonclaiphoeaaGreatDoorW.PrintWords Go.Proofs.YtfgonclaiphoeaaGreatDoorW.PrintLast Go.Proofs.YtfgonclaiphoeaaGreatDoorW.PrintMore Go.Maps
open Go.Proofs.YtfgonclaiphoeaaGreatDoor.Base Go.Proofs.YtfgonclaiphoeaaGreatDoor.Map Go.Proofs.YtfgonclaiphoeaaGreatDoor.Sl Go.Proofs.YtfgonclaiphoeaaGreatDoor.Ow Go.Proofs.YtfgonclaiphoeaaGreatDoor.Se

/-- a whole number of an int -/
abbrev ok64 (x : Int) : Prop := (Lit.int .i64 x).wf = true
theorem ok64_of {x : Int} (h1 : -9223372036854775808 ≤ x) (h2 : x ≤ 9223372036854775807) : ok64 x := WalkArith.wf_i64 (by omega)

/-! the keys -/
theorem law3 : Keyed Tryz.prog 3 := int_keyed Tryz.underlying3
theorem intKey {a : Int} (h : ok64 a) : keyOf Tryz.prog 3 (.int .i64 a) = some (.int .i64 a) := keyOf_int_mk Tryz.underlying3 h
theorem info54 : (Tryz.prog.info? 54).map (fun i => (i.zero, i.size, i.bytes)) = some (some (.agg #[.int .i64 0, .int .i64 0]), 2, 16) := by kernel_rfl
theorem laidOutI : laidOutB Tryz.prog = true := by kernel_rfl
theorem row54 : (54 : TypeId) < Tryz.prog.types.size := of_decide_eq_true (by kernel_rfl)
set_option maxRecDepth 100000 in
theorem wide54 : (match Tryz.prog.underlying 54 with | some (.array _ _) | some (.struct _) => true | _ => false) = true := by kernel_rfl
set_option maxRecDepth 100000 in
theorem law54 : Keyed Tryz.prog 54 := Keyed.of_law (deep_law_laid laidOutI (m := 3) (by omega) row54 (by kernel_rfl) wide54)
theorem keyType54 : Tryz.prog.keyType 54 = true := by kernel_rfl
theorem cells54 : Tryz.prog.cellsOf 54 = 2 := by kernel_rfl
theorem cells3 : Tryz.prog.cellsOf 3 = 1 := by kernel_rfl
def wayV (a f : Int) : Value := .agg #[.int .i64 a, .int .i64 f]
theorem size2 : ∃ m, Tryz.prog.types.size + 1 = m + 2 := ⟨Tryz.prog.types.size - 1, by have h : (54 : Nat) < Tryz.prog.types.size := row54; omega⟩
theorem way_key {a f : Int} (ha : ok64 a) (hf : ok64 f) : ∃ kl, keyOf Tryz.prog 54 (wayV a f) = some kl := by
  unfold wayV
  obtain ⟨m, hm⟩ := size2
  unfold keyOf
  simp only [Tryz.underlying54]
  rw [if_pos (by simp [keyType54, Value.formed, Tryz.underlying54, cells54]), hm]
  refine Option.isSome_iff_exists.1 ?_
  rw [Option.isSome_map]
  unfold Program.keyLits
  simp only [Tryz.underlying54, Value.cells]
  rw [if_pos (by simp [cells54])]
  rw [Option.isSome_map]
  simp only [List.mapM_cons, List.mapM_nil, cells3]
  unfold Program.keyLits
  simp only [Tryz.underlying3, cells3]
  simp [ha, hf]
open Classical in
noncomputable def wayL (a f : Int) : Lit := (keyOf Tryz.prog 54 (wayV a f)).getD (.bool false)
theorem wayL_key {a f : Int} (ha : ok64 a) (hf : ok64 f) : keyOf Tryz.prog 54 (wayV a f) = some (wayL a f) := by
  obtain ⟨kl, hk⟩ := way_key ha hf
  unfold wayL; rw [hk]; rfl
theorem wayL_inj {a f a' f' : Int} (ha : ok64 a) (hf : ok64 f) (ha' : ok64 a') (hf' : ok64 f') (h : wayL a f = wayL a' f') : a = a' ∧ f = f' := by
  have kb := wayL_key ha' hf'
  rw [← h] at kb
  have e := law54.inj (wayL_key ha hf) kb
  unfold wayV at e
  simp only [Value.agg.injEq, Array.mk.injEq, List.cons.injEq, Value.int.injEq, true_and, and_true] at e
  exact e

end Go.Proofs.YtfgonclaiphoeaaGreatDoor.Gr
