/- The document's example: awake. -/
import Derived.Test.YtkpadjhdneiniaaGreatDoorRc
import Derived.Test.YtkpadjhdneiniaaGreatDoorGg
namespace Go.Proofs.YtkpadjhdneiniaaGreatDoor.Rf
set_option linter.unusedVariables false
open Go.RowKit Go.Proofs.YtkpadjhdneiniaaGreatDoorW.PrintWords Go.Proofs.YtkpadjhdneiniaaGreatDoorW.PrintLast Go.Proofs.YtkpadjhdneiniaaGreatDoorW.PrintMore Go.Maps
open Go.Proofs.YtkpadjhdneiniaaGreatDoor.Base Go.Proofs.YtkpadjhdneiniaaGreatDoor.Map Go.Proofs.YtkpadjhdneiniaaGreatDoor.Sl Go.Proofs.YtkpadjhdneiniaaGreatDoor.Ow Go.Proofs.YtkpadjhdneiniaaGreatDoor.Se Go.Proofs.YtkpadjhdneiniaaGreatDoor.Gr

/-- numbers that a literal laid -/
theorem rdV_lit {w : World} {g : Nat} {l : List Int} {cur : Array Value} (h : w.heap[g]? = some (.cells cur 3 (0, 0))) (hc : cur.toList = nums .i64 l) (hl : l.length ≤ 1000000) : RdV w (.slice (some ⟨g, 0, none⟩) l.length l.length) l :=
  (OwF.of_block (F := fun _ => True) trivial h (Nat.le_refl _) (by unfold maxLen; omega) (by have := congrArg List.length hc; rw [nums_len] at this; simpa using this) (by rw [hc]; exact List.take_of_length_le (by rw [nums_len]; exact Nat.le_refl _))).toV
theorem blk_cellD {w : World} {g : Nat} {cur : Array Value} {t : Nat} (h : w.heap[g]? = some (.cells cur t (0, 0))) (j : Nat) (u : Value) (hu : cur[j]? = some u) : w.cell? ⟨g, j, none⟩ = some u := (blk_cell h j).trans hu
theorem add_zero_off (g j : Nat) : ((⟨g, 0, none⟩ : Addr).add j) = ⟨g, j, none⟩ := by unfold Addr.add; split <;> simp_all
theorem rdT_lit {w : World} {g : Nat} {T : List ByteArray} {cur : Array Value} (h : w.heap[g]? = some (.cells cur 9 (0, 0))) (hc : cur.toList = T.map Value.string) (hl : T.length ≤ 1000000) : RdT w (some ⟨g, 0, none⟩) T := by
  refine ⟨rfl, by omega, fun hn => ⟨_, rfl, fun j p hj => ⟨[.string p], rfl, rfl, fun i u hu => ?_⟩⟩⟩
  obtain ⟨rfl, rfl⟩ : i = 0 ∧ u = .string p := by
    cases i with
    | zero => simp at hu; exact ⟨rfl, hu.symm⟩
    | succ i => simp at hu
  rw [add_zero_off]
  refine blk_cellD h _ _ ?_
  show cur[j * 1 + 0]? = _
  rw [Nat.mul_one, Nat.add_zero, ← Array.getElem?_toList, hc, List.getElem?_map, hj]; rfl
theorem rdE_lit {w : World} {g : Nat} {e : GE} (h : w.heap[g]? = some (.cells #[.int .i64 e.1, .int .i64 e.2.1, .int .i64 e.2.2] 75 (0, 0))) : RdE w (some ⟨g, 0, none⟩) [e] := by
  refine ⟨rfl, by simp, fun hn => ⟨_, rfl, fun j p hj => ⟨edgeC p, rfl, rfl, fun i u hu => ?_⟩⟩⟩
  obtain ⟨rfl, rfl⟩ : j = 0 ∧ p = e := by
    cases j with
    | zero => simp at hj; exact ⟨rfl, hj.symm⟩
    | succ i => simp at hj
  rw [add_zero_off]
  refine blk_cellD h _ _ ?_
  show _[0 * 3 + i]? = _
  rw [Nat.zero_mul, Nat.zero_add, ← Array.getElem?_toList]
  exact hu
end Go.Proofs.YtkpadjhdneiniaaGreatDoor.Rf
