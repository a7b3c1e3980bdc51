/- slices.Sort and Compact over slices that a call owns: numbers, texts. -/
import Derived.Test.YtkpadjhdneiniaaGreatDoorOx
namespace Go.Proofs.YtkpadjhdneiniaaGreatDoor.Ow
set_option linter.unusedVariables false
open Go.RowKit Go.Proofs.YtkpadjhdneiniaaGreatDoorW.PrintWords Go.Proofs.YtkpadjhdneiniaaGreatDoorW.PrintLast Go.Proofs.YtkpadjhdneiniaaGreatDoorW.PrintMore
open Go.Proofs.YtkpadjhdneiniaaGreatDoor.Base Go.Proofs.YtkpadjhdneiniaaGreatDoor.Map Go.Proofs.YtkpadjhdneiniaaGreatDoor.Sl Go.Sort

theorem grow_block (w : World) (os : Array Obj) {k : Nat} (hk : k < w.heap.size) : (grow w os).heap[k]? = w.heap[k]? := by
  show (w.heap ++ os)[k]? = _
  rw [Array.getElem?_append_left hk]
theorem mapBlock_far (w : World) (g : Nat) (f : Array Value → Array Value) {k : Nat} (hk : k ≠ g) : (mapBlock w g f).heap[k]? = w.heap[k]? := by
  show (w.heap.modify g (onCells f))[k]? = _
  rw [Array.getElem?_modify, if_neg (fun e => hk e.symm)]
theorem mapBlock_at (w : World) (g : Nat) (f : Array Value → Array Value) {cur : Array Value} {e : TypeId} (h : w.heap[g]? = some (.cells cur e (0, 0))) : (mapBlock w g f).heap[g]? = some (.cells (f cur) e (0, 0)) := by
  show (w.heap.modify g (onCells f))[g]? = _
  rw [Array.getElem?_modify, if_pos rfl, h]; rfl
theorem mapBlock_size (w : World) (g : Nat) (f : Array Value → Array Value) : (mapBlock w g f).heap.size = w.heap.size := by
  show (w.heap.modify g (onCells f)).size = _
  simp
theorem put_take {α : Type} [Inhabited α] (enc : α → Value) (d : Array α) (cur : Array Value) (h : d.size ≤ cur.size) : (putCells enc 0 d cur).toList.take d.size = d.toList.map enc := by
  apply List.ext_getElem?
  intro j
  rw [List.getElem?_take]
  by_cases hj : j < d.size
  · rw [if_pos hj, Array.getElem?_toList]
    unfold putCells
    rw [Array.getElem?_mapIdx, Array.getElem?_eq_getElem (by omega)]
    simp [hj]
  · rw [if_neg hj, List.getElem?_eq_none (by simp; omega)]
theorem put_size {α : Type} [Inhabited α] (enc : α → Value) (d : Array α) (cur : Array Value) : (putCells enc 0 d cur).size = cur.size := by simp [putCells]
/-- what Sort leaves -/
theorem sorted_chg {α : Type} [Inhabited α] (enc : α → Value) {F : Nat → Prop} {w : World} {g n : Nat} {os : Array Obj} {d : Array α} {cur : Array Value} {e : TypeId} (hF : F g) (h : w.heap[g]? = some (.cells cur e (0, 0))) :
    Chg F w (grow (putRow enc (Sort.ahead w n) g 0 d) os) ∧ (grow (putRow enc (Sort.ahead w n) g 0 d) os).heap[g]? = some (.cells (putCells enc 0 d cur) e (0, 0)) := by
  have hs : (putRow enc (Sort.ahead w n) g 0 d).heap.size = w.heap.size := mapBlock_size _ _ _
  refine ⟨⟨rfl, rfl, rfl, ?_, fun k hk hn => ?_⟩, ?_⟩
  · show _ ≤ (Array.size (_ ++ os)); rw [Array.size_append, hs]; omega
  · rw [grow_block _ _ (by omega)]
    exact mapBlock_far _ _ _ (fun e => hn (e ▸ hF))
  · rw [grow_block _ _ (by rw [hs]; exact blk_lt h)]
    exact mapBlock_at _ _ _ h
def sortL (l : List Int) : List Int := l.mergeSort fun x y => decide (x ≤ y)
theorem sortL_len (l : List Int) : (sortL l).length = l.length := List.length_mergeSort _
/-- Sort -/
theorem sort_own (v : Value) (l : List Int) (F : Nat → Prop) (w : World) (h : OwF w F v l) (hl : l.length ≤ 1000000000) :
    Calls Tryz.prog 88 #[v] w fun e w' => e = .returned (.tuple #[]) ∧ OwF w' F v (sortL l) ∧ Chg F w w' := by
  rcases h.form with ⟨rfl, rfl⟩ | ⟨g, cap, cur, rfl, hFg, hg, h1, h2, h3, h4⟩
  · refine (Tryz.slices_Sort_int_none none 0 w).mono ?_
    rintro e w' ⟨rfl, rfl⟩
    exact ⟨rfl, by have : sortL [] = [] := List.mergeSort_nil
                   rw [this]; exact OwF.nil _ _, Chg.refl _ _⟩
  · have hH : Holds (Value.int .i64) w g 0 l.toArray := by
      intro j hj
      have hj' : j < l.length := by simpa using hj
      refine ⟨?_, blk_frozen hg _⟩
      rw [Nat.zero_add, blk_cell hg, ← Array.getElem?_toList]
      have e1 := congrArg (·[j]?) h4
      simp only [List.getElem?_take, hj', if_true] at e1
      rw [e1]
      simp [nums, hj']
    refine (Tryz.slices_Sort_int g 0 cap l w hH (blk_lt hg) (by omega)).mono ?_
    rintro e w' ⟨rfl, n, os, rfl⟩
    obtain ⟨c1, c2⟩ := sorted_chg (Value.int .i64) (n := n) (os := os) (d := (sortL l).toArray) hFg hg
    refine ⟨rfl, ?_, c1⟩
    have hO := OwF.of_block (l := sortL l) (F := F) (cap := cap) hFg c2 (by rw [sortL_len]; exact h1) h2 (by rw [put_size]; exact h3) (by
      have := put_take (Value.int .i64) (sortL l).toArray cur (by simp [sortL_len]; omega)
      simpa [nums] using this)
    rw [sortL_len] at hO
    exact hO
/-- Compact -/
theorem compact_own (v : Value) (l : List Int) (F : Nat → Prop) (w : World) (h : OwF w F v l) :
    Calls Tryz.prog 89 #[v] w fun e w' => ∃ v', e = .returned v' ∧ OwF w' F v' (Lib.compact l) ∧ Chg F w w' := by
  rcases h.form with ⟨rfl, rfl⟩ | ⟨g, cap, cur, rfl, hFg, hg, h1, h2, h3, h4⟩
  · refine (Tryz.slices_Compact_int_empty none 0 w).mono ?_
    rintro e w' ⟨rfl, rfl⟩
    exact ⟨_, rfl, by have : Lib.compact ([] : List Int) = [] := rfl
                      rw [this]; exact OwF.nil _ _, Chg.refl _ _⟩
  · refine (Tryz.slices_Compact_int_cells g 0 l.length cap l w (Nat.le_refl _) h.max h1 (fun j hj => ?_) (fun j hj => blk_frozen hg _)).mono ?_
    · rw [Nat.zero_add, blk_cell hg, ← Array.getElem?_toList]
      have e1 := congrArg (·[j]?) h4
      simp only [List.getElem?_take, hj, if_true] at e1
      rw [e1]
      simp [nums, hj]
    rintro e w' ⟨rfl, q, rfl⟩
    rw [List.take_of_length_le (Nat.le_refl _)]
    have hcl := compact_len_le l
    have hg1 : (w.drewN q).heap[g]? = some (.cells cur 3 (0, 0)) := (pw_below_drewN (Below.refl w.heap.size w) q).block g (blk_lt hg) |>.trans hg
    obtain ⟨c1, k1, k2, k3⟩ := setCells_row ((Lib.compact l ++ List.replicate (l.length - (Lib.compact l).length) 0).map (Value.int .i64)) 0 (w.drewN q) cur hg1 (by simp; omega)
    refine ⟨_, rfl, ?_, ((Chg.refl F w).andBelow (pw_below_drewN (Below.refl _ _) q)).then_ (chg_setCells _ hFg _ _) (fun _ h => .inl h)⟩
    exact OwF.of_block (l := Lib.compact l) (F := F) (cap := cap) hFg k1 (by omega) h2 (by omega) (by
      rw [k3, List.take_zero, List.nil_append, List.map_append, List.append_assoc, List.take_append_of_le_length (by simp), List.take_of_length_le (by simp)]
      rfl)
end Go.Proofs.YtkpadjhdneiniaaGreatDoor.Ow
