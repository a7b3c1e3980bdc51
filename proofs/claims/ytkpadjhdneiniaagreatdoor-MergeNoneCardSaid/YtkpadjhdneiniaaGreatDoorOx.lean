/- slices.Insert, Sort, Compact over slices that a call owns. -/
import Derived.Test.YtkpadjhdneiniaaGreatDoorOw
namespace Go.Proofs.YtkpadjhdneiniaaGreatDoor.Ow
set_option linter.unusedVariables false
open Go.RowKit Go.Proofs.YtkpadjhdneiniaaGreatDoorW.PrintWords Go.Proofs.YtkpadjhdneiniaaGreatDoorW.PrintLast Go.Proofs.YtkpadjhdneiniaaGreatDoorW.PrintMore
open Go.Proofs.YtkpadjhdneiniaaGreatDoor.Base Go.Proofs.YtkpadjhdneiniaaGreatDoor.Map Go.Proofs.YtkpadjhdneiniaaGreatDoor.Sl

theorem chg_setCells {F : Nat → Prop} (w : World) {g : Nat} (hg : F g) (o : Nat) (vs : List Value) : Chg F w (w.setCells g o vs) := by
  obtain ⟨h1, h2, h3, h4⟩ := setCells_same g vs o w
  exact ⟨h1, h2, h3, by rw [h4]; exact Nat.le_refl _, fun k _ hn => setCells_far vs o k (fun e => hn (e ▸ hg))⟩
theorem chg_draw {F : Nat → Prop} {w w1 : World} (h : Chg F w w1) : Chg F w w1.drew := h.andBelow (below_drew (Below.refl _ _))
theorem size_setCells (w : World) (g o : Nat) (vs : List Value) : (w.setCells g o vs).heap.size = w.heap.size := (setCells_same g vs o w).2.2.2
theorem nums_take (l : List Int) (k : Nat) : (nums .i64 l).take k = nums .i64 (l.take k) := by simp [nums]
theorem nums_drop (l : List Int) (k : Nat) : (nums .i64 l).drop k = nums .i64 (l.drop k) := by simp [nums]
theorem nums_app (a b : List Int) : nums .i64 (a ++ b) = nums .i64 a ++ nums .i64 b := by simp [nums]
theorem nums_len (l : List Int) : (nums .i64 l).length = l.length := by simp [nums]
/-- what stands in the row behind an insertion in place -/
theorem shift_list {L : List Value} {l : List Int} {i : Nat} {x : Int} (hi : i ≤ l.length) (hr : l.length + 1 ≤ L.length) (hL : L.take l.length = nums .i64 l) :
    (((L.take (i + 1) ++ nums .i64 (l.drop i) ++ L.drop (i + 1 + (l.drop i).length)).take i ++ [Value.int .i64 x] ++ (L.take (i + 1) ++ nums .i64 (l.drop i) ++ L.drop (i + 1 + (l.drop i).length)).drop (i + 1))).take (l.length + 1) = nums .i64 (l.take i ++ x :: l.drop i) := by
  have e1 : L.take i = nums .i64 (l.take i) := by rw [← nums_take, ← hL, List.take_take, Nat.min_eq_left hi]
  have hl : (L.take (i + 1)).length = i + 1 := by simp; omega
  have e2 : (L.take (i + 1) ++ nums .i64 (l.drop i) ++ L.drop (i + 1 + (l.drop i).length)).take i = nums .i64 (l.take i) := by
    rw [List.append_assoc, List.take_append_of_le_length (by omega), List.take_take, Nat.min_eq_left (by omega), e1]
  have e3 : (L.take (i + 1) ++ nums .i64 (l.drop i) ++ L.drop (i + 1 + (l.drop i).length)).drop (i + 1) = nums .i64 (l.drop i) ++ L.drop (i + 1 + (l.drop i).length) := by
    rw [List.append_assoc, List.drop_append_of_le_length (by omega), List.drop_of_length_le (by omega), List.nil_append]
  rw [e2, e3, nums_app]
  have e4 : nums .i64 (x :: l.drop i) = Value.int .i64 x :: nums .i64 (l.drop i) := rfl
  rw [e4, show nums .i64 (l.take i) ++ [Value.int .i64 x] ++ (nums .i64 (l.drop i) ++ L.drop (i + 1 + (l.drop i).length)) = (nums .i64 (l.take i) ++ Value.int .i64 x :: nums .i64 (l.drop i)) ++ L.drop (i + 1 + (l.drop i).length) by simp]
  rw [List.take_append_of_le_length (by simp [nums]; omega), List.take_of_length_le (by simp [nums]; omega)]
/-- .. and in a new row -/
theorem grow_list {L : List Value} {l : List Int} {i : Nat} {x : Int} (hi : i ≤ l.length) (hr : l.length + 1 ≤ L.length) (hL : L.take i = nums .i64 (l.take i)) :
    ((L.take i ++ [Value.int .i64 x] ++ L.drop (i + 1)).take (i + 1) ++ nums .i64 (l.drop i) ++ (L.take i ++ [Value.int .i64 x] ++ L.drop (i + 1)).drop (i + 1 + (nums .i64 (l.drop i)).length)).take (l.length + 1) = nums .i64 (l.take i ++ x :: l.drop i) := by
  have hl : (L.take i ++ [Value.int .i64 x]).length = i + 1 := by simp; omega
  have e2 : (L.take i ++ [Value.int .i64 x] ++ L.drop (i + 1)).take (i + 1) = nums .i64 (l.take i) ++ [Value.int .i64 x] := by
    rw [List.take_append_of_le_length (by omega), List.take_of_length_le (by omega), hL]
  rw [e2, nums_app]
  have e4 : nums .i64 (x :: l.drop i) = Value.int .i64 x :: nums .i64 (l.drop i) := rfl
  rw [e4, show nums .i64 (l.take i) ++ [Value.int .i64 x] ++ nums .i64 (l.drop i) = nums .i64 (l.take i) ++ Value.int .i64 x :: nums .i64 (l.drop i) by simp]
  rw [List.take_append_of_le_length (by simp [nums]; omega), List.take_of_length_le (by simp [nums]; omega)]
/-- Insert of one number that is new, at its place -/
theorem insert_own (v : Value) (l : List Int) (x : Int) (vb : Nat) (F : Nat → Prop) (w : World) (h : OwF w F v l) (hx : x ∉ l) (hvb : w.heap[vb]? = some (.cells #[.int .i64 x] 3 (0, 0))) (hn : ¬ F vb) (hl : l.length ≤ 1000000000) :
    Calls Tryz.prog 83 #[v, .int .i64 (below l x : Nat), .slice (some ⟨vb, 0, none⟩) 1 1] w fun e w' => ∃ v', e = .returned v' ∧ OwF w' (ext F w w') v' (ins l x) ∧ Chg F w w' := by
  rw [ins_new hx]
  have hi := below_le l x
  generalize below l x = i at hi ⊢
  have hvs : ∀ (j : Nat) (u : Value), [Value.int .i64 x][j]? = some u → w.cell? ⟨vb, 0 + j, none⟩ = some u := by
    intro j u hj
    rw [Nat.zero_add, blk_cell hvb]
    cases j with
    | zero => simpa using hj
    | succ j => simp at hj
  have h1v : ∀ u ∈ [Value.int .i64 x], u.oneCell' = true := by intro u hu; rw [List.mem_singleton] at hu; subst hu; rfl
  have hend : ∀ (l' : List Int), l'.take l'.length ++ x :: l'.drop l'.length = l' ++ [x] := fun l' => by simp
  rcases h.form with ⟨rfl, rfl⟩ | ⟨g, cap, cur, rfl, hFg, hg, h1, h2, h3, h4⟩
  · obtain rfl : i = 0 := by simpa using hi
    refine (Any2.slices_Insert_int_end_grow Tryz.laysNm221 none 0 0 vb 0 1 1 [] [Value.int .i64 x] w (by omega) (by omega) (by omega) (by omega) rfl rfl (fun _ => rfl) (fun _ h => by cases h) hvs h1v).mono ?_
    rintro e w' ⟨rfl, rfl⟩
    have hge := grownCap_ge w (0 + 1) 0 (Tryz.laysNm221_ren.t 3)
    have hlm := grownCap_le_maxLen w (0 + 1) 0 (Tryz.laysNm221_ren.t 3) (by unfold maxLen; omega)
    refine ⟨_, rfl, ?_, (chg_draw (Chg.refl F w)).andBelow (below_alloc (Below.refl _ _) _)⟩
    refine OwF.of_block (l := [x]) (F := ext F w _) (g := w.heap.size) (.inr ⟨Nat.le_refl _, by simp⟩) (heap_alloc_new w.drew _) hge hlm (by
      have hz1 : (Value.int .i64 0).cells.size = 1 := rfl
      simp only [Nat.zero_add] at hge ⊢
      simp [size_zeroCells, hz1]; omega) ?_
    simp [nums]
  · have hcl : (nums .i64 l).length = l.length := nums_len l
    have hcs : ∀ (j : Nat) (u : Value), (nums .i64 l)[j]? = some u → w.cell? ⟨g, 0 + j, none⟩ = some u := by
      intro j u hj
      rw [Nat.zero_add, blk_cell hg, ← Array.getElem?_toList]
      rw [← h4] at hj
      rw [List.getElem?_take] at hj
      split at hj
      · exact hj
      · cases hj
    have hcm : cap ≤ 9223372036854775807 := h2
    by_cases hroom : l.length + 1 ≤ cap
    · by_cases hin : i < l.length
      · have hvg : vb ≠ g := fun e => hn (e ▸ hFg)
        refine (Any2.slices_Insert_int_shift Tryz.laysNm221 g 0 l.length cap i vb 0 1 1 (nums .i64 l) [Value.int .i64 x] w hin (by omega) hroom hcm hvg hcl rfl hcs
          (fun j hj => by rw [Nat.zero_add, blk_cell hg, Array.getElem?_eq_getElem (by omega)]; rfl) (fun j hj => blk_frozen hg _) hvs (nums_one l) h1v 3 3 1 cap (by simp [World.shape?, hvb]) (by simp [World.shape?, hg, h3]) (by omega) (blk_frozen hvb _) (blk_frozen hvb _)).mono ?_
        rintro e w' ⟨rfl, rfl⟩
        have hg1 : w.drew.heap[g]? = some (.cells cur 3 (0, 0)) := hg
        obtain ⟨c1, k1, k2, k3⟩ := setCells_row ((nums .i64 l).drop i) (0 + (i + 1)) w.drew cur hg1 (by simp [nums]; omega)
        obtain ⟨c2, m1, m2, m3⟩ := setCells_row [Value.int .i64 x] (0 + i) _ c1 k1 (by simp; omega)
        refine ⟨_, rfl, ?_, ?_⟩
        · have hlen : (l.take i ++ x :: l.drop i).length = l.length + 1 := by simp; omega
          have hO := OwF.of_block (l := l.take i ++ x :: l.drop i) (F := ext F w ((w.drew.setCells g (0 + (i + 1)) ((nums .i64 l).drop i)).setCells g (0 + i) [Value.int .i64 x])) (cap := cap) (.inl hFg) m1 (by omega) h2 (by omega) (by
            rw [m3, k3, hlen]
            have e0 : 0 + (i + 1) = i + 1 := by omega
            have e1 : 0 + i + [Value.int .i64 x].length = i + 1 := by simp
            have e2 : ((nums .i64 l).drop i).length = (l.drop i).length := by simp [nums]
            rw [e0, e1, Nat.zero_add, e2, nums_drop]
            exact shift_list hi (by have := Array.length_toList (xs := cur); omega) h4)
          rw [hlen] at hO
          exact hO
        · exact (((chg_draw (Chg.refl F w)).then_ (chg_setCells _ hFg _ _) (fun _ h => .inl h)).then_ (chg_setCells _ hFg _ _) (fun _ h => .inl h))
      · obtain rfl : i = l.length := by omega
        rw [hend]
        refine (Any2.slices_Insert_int_end_room Tryz.laysNm221 g 0 l.length cap vb 0 1 1 [Value.int .i64 x] w (by omega) hroom hcm rfl
          (fun j hj => by rw [blk_cell hg, Array.getElem?_eq_getElem (by omega)]; rfl) (fun j hj => blk_frozen hg _) hvs h1v).mono ?_
        rintro e w' ⟨rfl, rfl⟩
        obtain ⟨c1, k1, k2, k3⟩ := setCells_row [Value.int .i64 x] (0 + l.length) w cur hg (by simp; omega)
        refine ⟨_, rfl, ?_, chg_setCells _ hFg _ _⟩
        have hO := OwF.of_block (l := l ++ [x]) (F := ext F w (w.setCells g (0 + l.length) [Value.int .i64 x])) (cap := cap) (.inl hFg) k1 (by simp; omega) h2 (by omega) (by
          rw [k3, Nat.zero_add, h4, List.take_append_of_le_length (by simp [nums]), List.take_of_length_le (by simp [nums])]
          simp [nums])
        have hlen : (l ++ [x]).length = l.length + 1 := by simp
        rw [hlen] at hO
        exact hO
    · have hge := grownCap_ge w (l.length + 1) cap (Tryz.laysNm221_ren.t 3)
      have hlm := grownCap_le_maxLen w (l.length + 1) cap (Tryz.laysNm221_ren.t 3) (by unfold maxLen; omega)
      by_cases hin : i < l.length
      · refine (Any2.slices_Insert_int_grow Tryz.laysNm221 g 0 l.length cap i vb 0 1 1 (nums .i64 l) [Value.int .i64 x] w hin (by omega) h1 (by omega) (by omega) hcl rfl hcs hvs (nums_one l) h1v).mono ?_
        rintro e w' ⟨rfl, rfl⟩
        generalize hgc : grownCap w (l.length + 1) cap (Tryz.laysNm221_ren.t 3) = gc at hge hlm
        generalize hcur : ((nums .i64 l).take i).toArray ++ Builtin.zeroCells (Value.int .i64 0).cells (l.length + 1 - i) ++ Builtin.zeroCells (Value.int .i64 0).cells (gc - (l.length + 1)) = cur0
        have hz1 : (Value.int .i64 0).cells.size = 1 := rfl
        have hsz : cur0.size = gc := by rw [← hcur]; simp [size_zeroCells, hz1, nums]; omega
        have htk : cur0.toList.take i = nums .i64 (l.take i) := by
          rw [← hcur, Array.append_assoc, Array.toList_append, List.take_append_of_le_length (by simp [nums]; omega), nums_take, List.take_of_length_le (by simp [nums]; omega)]
        have hb0 : ((w.alloc (.cells cur0 (Tryz.laysNm221_ren.t 3))).drew).heap[w.heap.size]? = some (.cells cur0 3 (0, 0)) := heap_alloc_new w _
        obtain ⟨c1, k1, k2, k3⟩ := setCells_row [Value.int .i64 x] i _ cur0 hb0 (by simp; omega)
        have k1' : ((((w.alloc (.cells cur0 (Tryz.laysNm221_ren.t 3))).drew).setCells w.heap.size i [Value.int .i64 x]).drew).heap[w.heap.size]? = some (.cells c1 3 (0, 0)) := k1
        obtain ⟨c2, m1, m2, m3⟩ := setCells_row ((nums .i64 l).drop i) (i + 1) _ c1 k1' (by simp [nums]; omega)
        refine ⟨_, rfl, ?_, ?_⟩
        · have hlen : (l.take i ++ x :: l.drop i).length = l.length + 1 := by simp; omega
          have hO := OwF.of_block (l := l.take i ++ x :: l.drop i) (F := ext F w (((((w.alloc (.cells cur0 (Tryz.laysNm221_ren.t 3))).drew).setCells w.heap.size i [Value.int .i64 x]).drew).setCells w.heap.size (i + 1) ((nums .i64 l).drop i))) (cap := gc) (.inr ⟨Nat.le_refl _, by rw [size_setCells]; refine Nat.lt_of_lt_of_eq (Nat.lt_succ_self _) ?_; refine Eq.trans ?_ (size_setCells ((w.alloc (.cells cur0 (Tryz.laysNm221_ren.t 3))).drew) _ _ _).symm; simp [World.drew]⟩) m1 (by omega) hlm (by omega) (by
            rw [m3, k3, hlen, nums_drop]
            have e1 : i + [Value.int .i64 x].length = i + 1 := by simp
            rw [e1]
            exact grow_list hi (by have := Array.length_toList (xs := cur0); omega) htk)
          rw [hlen] at hO
          exact hO
        · have c1 : Chg F w ((w.alloc (.cells cur0 (Tryz.laysNm221_ren.t 3))).drew) := chg_draw (Chg.alloc w _ F)
          have c2 := c1.then_ (chg_setCells (F := fun k => k = w.heap.size) _ rfl i [Value.int .i64 x]) (fun k hk => .inr (by rw [hk]; exact Nat.le_refl _))
          exact (chg_draw c2).then_ (chg_setCells (F := fun k => k = w.heap.size) _ rfl (i + 1) _) (fun k hk => .inr (by rw [hk]; exact Nat.le_refl _))
      · obtain rfl : i = l.length := by omega
        rw [hend]
        refine (Any2.slices_Insert_int_end_grow Tryz.laysNm221 (some ⟨g, 0, none⟩) l.length cap vb 0 1 1 (nums .i64 l) [Value.int .i64 x] w (by omega) h1 (by omega) (by omega) hcl rfl (fun h => by cases h) (fun a ha j u hj => by
          cases ha
          have e3 : (⟨g, 0, none⟩ : Addr).add j = ⟨g, 0 + j, none⟩ := by
            unfold Addr.add; split <;> simp_all
          rw [e3]; exact hcs j u hj) hvs h1v).mono ?_
        rintro e w' ⟨rfl, rfl⟩
        generalize hgc : grownCap w (l.length + 1) cap (Tryz.laysNm221_ren.t 3) = gc at hge hlm
        generalize hcur : (nums .i64 l ++ [Value.int .i64 x]).toArray ++ Builtin.zeroCells (Value.int .i64 0).cells (gc - (l.length + 1)) = cur0
        have hz1 : (Value.int .i64 0).cells.size = 1 := rfl
        have hsz : cur0.size = gc := by rw [← hcur]; simp [size_zeroCells, hz1, nums]; omega
        have htk : cur0.toList.take (l.length + 1) = nums .i64 (l ++ [x]) := by
          rw [← hcur, Array.toList_append, List.take_append_of_le_length (by simp [nums]), List.take_of_length_le (by simp [nums])]
          simp [nums]
        refine ⟨_, rfl, ?_, (chg_draw (Chg.refl F w)).andBelow (below_alloc (Below.refl _ _) _)⟩
        have hlen : (l ++ [x]).length = l.length + 1 := by simp
        have hO := OwF.of_block (l := l ++ [x]) (F := ext F w (w.drew.alloc (.cells cur0 (Tryz.laysNm221_ren.t 3)))) (g := w.heap.size) (cap := gc) (.inr ⟨Nat.le_refl _, by simp⟩) (heap_alloc_new w.drew _) (by omega) hlm hsz (by rw [hlen]; exact htk)
        rw [hlen] at hO
        exact hO
end Go.Proofs.YtkpadjhdneiniaaGreatDoor.Ow
