/- The document's example: awake. -/
import Derived.Test.YtfgonclaiphoeaaGreatDoorRc
import Derived.Test.YtfgonclaiphoeaaGreatDoorGl
namespace Go.Proofs.YtfgonclaiphoeaaGreatDoor.Rf
set_option linter.unusedVariables false
open Go.RowKit Go.Proofs.YtfgonclaiphoeaaGreatDoorW.PrintWords Go.Proofs.YtfgonclaiphoeaaGreatDoorW.PrintLast Go.Proofs.YtfgonclaiphoeaaGreatDoorW.PrintMore Go.Maps
open Go.Proofs.YtfgonclaiphoeaaGreatDoor.Base Go.Proofs.YtfgonclaiphoeaaGreatDoor.Map Go.Proofs.YtfgonclaiphoeaaGreatDoor.Sl Go.Proofs.YtfgonclaiphoeaaGreatDoor.Ow Go.Proofs.YtfgonclaiphoeaaGreatDoor.Se Go.Proofs.YtfgonclaiphoeaaGreatDoor.Gr

/-- numbers that a literal laid -/
theorem rdV_lit {w : World} {g : Nat} {l : List Int} {cur : Array Value} (h : w.heap[g]? = some (.cells cur 3 (0, 0))) (hc : cur.toList = nums .i64 l) (hl : l.length ≤ 1000000) : RdV w (.slice (some ⟨g, 0, none⟩) l.length l.length) l :=
  (OwF.of_block (F := fun _ => True) trivial h (Nat.le_refl _) (by unfold maxLen; omega) (by have := congrArg List.length hc; rw [nums_len] at this; simpa using this) (by rw [hc]; exact List.take_of_length_le (by rw [nums_len]; exact Nat.le_refl _))).toV
theorem blk_cellD {w : World} {g : Nat} {cur : Array Value} {t : Nat} (h : w.heap[g]? = some (.cells cur t (0, 0))) (j : Nat) (u : Value) (hu : cur[j]? = some u) : w.cell? ⟨g, j, none⟩ = some u := (blk_cell h j).trans hu
theorem add_zero_off (g j : Nat) : ((⟨g, 0, none⟩ : Addr).add j) = ⟨g, j, none⟩ := by unfold Addr.add; split <;> simp_all
theorem rdT_lit {w : World} {g : Nat} {T : List ByteArray} {cur : Array Value} (h : w.heap[g]? = some (.cells cur 9 (0, 0))) (hc : cur.toList = T.map Value.string) (hl : T.length ≤ 1000000) : RdT w (some ⟨g, 0, none⟩) T := by
  refine ⟨rfl, by omega, fun hn => ⟨_, rfl, fun j p hj => ⟨[.string p], rfl, rfl, fun i u hu => ?_⟩⟩⟩
  obtain ⟨rfl, rfl⟩ : i = 0 ∧ u = .string p := by
    cases i with
    | zero => simp at hu; exact ⟨rfl, hu.symm⟩
    | succ i => simp at hu
  rw [add_zero_off]
  refine blk_cellD h _ _ ?_
  show cur[j * 1 + 0]? = _
  rw [Nat.mul_one, Nat.add_zero, ← Array.getElem?_toList, hc, List.getElem?_map, hj]; rfl
theorem rdE_lit {w : World} {g : Nat} {e : GE} (h : w.heap[g]? = some (.cells #[.int .i64 e.1, .int .i64 e.2.1, .int .i64 e.2.2] 44 (0, 0))) : RdE w (some ⟨g, 0, none⟩) [e] := by
  refine ⟨rfl, by simp, fun hn => ⟨_, rfl, fun j p hj => ⟨edgeC p, rfl, rfl, fun i u hu => ?_⟩⟩⟩
  obtain ⟨rfl, rfl⟩ : j = 0 ∧ p = e := by
    cases j with
    | zero => simp at hj; exact ⟨rfl, hj.symm⟩
    | succ i => simp at hj
  rw [add_zero_off]
  refine blk_cellD h _ _ ?_
  show _[0 * 3 + i]? = _
  rw [Nat.zero_mul, Nat.zero_add, ← Array.getElem?_toList]
  exact hu
theorem ex_next : nextG [(0, 5, 1)] 5 [0] = [1] := by decide
theorem ex_fields : fieldsG [(0, 5, 1)] [] = [5] := by decide
theorem ex_reach : reachG 2 [(0, 5, 1)] [0] = [0, 1] := by
  have h0 : Rch 2 [(0, 5, 1)] [0] 0 := .base (by simp) (by decide) (by decide)
  refine (reachG_of (by unfold Srt; decide) (fun x hx => ?_) (fun o ho _ _ => ?_) (fun a _ f b hb _ _ => ?_)).symm
  · simp only [List.mem_cons, List.not_mem_nil, or_false] at hx
    rcases hx with rfl | rfl
    · exact h0
    · exact .step h0 (f := 5) (by simp) (by decide) (by decide)
  · simp only [List.mem_singleton] at ho; subst ho; simp
  · simp only [List.mem_singleton, Prod.mk.injEq] at hb; obtain ⟨_, _, rfl⟩ := hb; simp
theorem ex_ok : ∀ a f z, (a, f, z) ∈ [((0 : Int), (5 : Int), (1 : Int))] → ok64 f := fun a f z h => by
  simp only [List.mem_singleton, Prod.mk.injEq] at h; obtain ⟨_, rfl, _⟩ := h; decide
theorem ex_okx : ∀ a f z, (a, f, z) ∈ [((0 : Int), (5 : Int), (1 : Int))] → ok64 a := fun a f z h => by
  simp only [List.mem_singleton, Prod.mk.injEq] at h; obtain ⟨rfl, _, _⟩ := h; decide
theorem ok_0 : ∀ x ∈ [(0 : Int)], ok64 x := fun x h => by simp only [List.mem_singleton] at h; subst h; decide
theorem TZ.belowB {w w1 : World} (h : TZ w) (hb : Below w.heap.size w w1) : TZ w1 := h.below hb
set_option maxHeartbeats 8000000 in
set_option maxRecDepth 100000 in
theorem awake_any (w : World) (hT : TZ w) :
    Calls Tryz.prog 6 #[] w fun e w' => e = .returned (.bool true) ∧ Below w.heap.size w w' := by
  have HT := Aside0.mk hT
  clear hT
  go_enter Tryz.func6, Tryz.ntmps6
  go_wp2_with fail
  obtain ⟨w1, hw1⟩ : ∃ w1, w.alloc (Obj.cells #[Value.string { data := #[65] }, Value.string { data := #[66] }] 9) = w1 := ⟨_, rfl⟩
  rw [hw1]
  have hs1 : w1.heap.size = w.heap.size + 1 := by rw [← hw1]; exact Array.size_push ..
  have b1 : Below w.heap.size w w1 := by rw [← hw1]; exact below_alloc (Below.refl _ _) _
  have t1 : RdT w1 (some ⟨w.heap.size, 0, none⟩) [⟨#[65]⟩, ⟨#[66]⟩] := rdT_lit (by rw [← hw1]; exact heap_alloc_new _ _) rfl (by decide)
  obtain ⟨w2, hw2⟩ : ∃ w2, w1.alloc (Obj.cells #[Value.int .i64 0, Value.int .i64 5, Value.int .i64 1] 44) = w2 := ⟨_, rfl⟩
  have b2 : Below w1.heap.size w1 w2 := by rw [← hw2]; exact below_alloc (Below.refl _ _) _
  have t2 : RdE w2 (some ⟨w.heap.size + 1, 0, none⟩) [((0 : Int), (5 : Int), (1 : Int))] := rdE_lit (by rw [← hw2, ← hs1]; exact heap_alloc_new _ _)
  have t1' := t1.below b2
  have HB2 := Aside0.mk (bel_trans b1 b2)
  obtain ⟨g, hg⟩ : ∃ g, w.heap.size = g := ⟨_, rfl⟩
  rw [hw2]
  have R1 := new_any (some ⟨w.heap.size, 0, none⟩) 2 [⟨#[65]⟩, ⟨#[66]⟩] (some ⟨w.heap.size + 1, 0, none⟩) 1 [((0 : Int), (5 : Int), (1 : Int))] w2 t1' t2 (by decide) (by decide) ex_ok (by decide)
  clear hs1 b1 b2 t1 t1' t2 hw1 hw2
  refine R1.mono ?_
  clear R1
  rintro e w3 ⟨p, lab, rfl, r1, r2⟩
  have HG := Aside0.mk (GA.mk ⟨lab, r1⟩)
  have HB3 := Aside0.mk (bel_trans HB2.out r2)
  clear r1 r2 
  clear hg
  clear g
  go_wp2_with fail
  obtain ⟨w4, hw4⟩ : ∃ w4, w3.alloc (Obj.cells #[Value.string { data := #[65] }] 9) = w4 := ⟨_, rfl⟩
  rw [hw4]
  have hs1 : w4.heap.size = w3.heap.size + 1 := by rw [← hw4]; exact Array.size_push ..
  have b1 : Below w3.heap.size w3 w4 := by rw [← hw4]; exact below_alloc (Below.refl _ _) _
  have t1 : RdT w4 (some ⟨w3.heap.size, 0, none⟩) [⟨#[65]⟩] := rdT_lit (by rw [← hw4]; exact heap_alloc_new _ _) rfl (by decide)
  obtain ⟨w5, hw5⟩ : ∃ w5, w4.alloc (Obj.cells #[Value.int .i64 0, Value.int .i64 5, Value.int .i64 1] 44) = w5 := ⟨_, rfl⟩
  have b2 : Below w4.heap.size w4 w5 := by rw [← hw5]; exact below_alloc (Below.refl _ _) _
  have t2 : RdE w5 (some ⟨w3.heap.size + 1, 0, none⟩) [((0 : Int), (5 : Int), (1 : Int))] := rdE_lit (by rw [← hw5, ← hs1]; exact heap_alloc_new _ _)
  have t1' := t1.below b2
  have HB5 := Aside0.mk (bel_trans b1 b2)
  rw [hw5]
  have R1 := new_bad (some ⟨w3.heap.size, 0, none⟩) 1 [⟨#[65]⟩] (some ⟨w3.heap.size + 1, 0, none⟩) 1 [((0 : Int), (5 : Int), (1 : Int))] w5 t1' t2 (by decide) (by decide) ex_ok (by decide)
  clear hs1 b1 b2 t1 t1' t2 hw4 hw5
  refine R1.mono ?_
  clear R1
  rintro e w6 ⟨rfl, r2⟩
  have HB6 := Aside0.mk (bel_trans HB5.out r2)
  clear r2
  go_wp2_with fail
  refine (of_nil w6).mono ?_
  rintro e w7 ⟨rfl, rfl⟩
  go_wp2_with fail
  obtain ⟨w8, hw8⟩ : ∃ w8, w6.alloc (Obj.cells #[Value.int .i64 0] 3) = w8 := ⟨_, rfl⟩
  rw [hw8]
  have b1 : Below w6.heap.size w6 w8 := by rw [← hw8]; exact below_alloc (Below.refl _ _) _
  have t1 : RdV w8 (.slice (some ⟨w6.heap.size, 0, none⟩) 1 1) [0] := rdV_lit (l := [0]) (by rw [← hw8]; exact heap_alloc_new _ _) rfl (by decide)
  have T1 := Aside0.mk t1
  have HB8 := Aside0.mk (bel_trans HB6.out b1)
  clear b1 hw8 t1
  refine (next_any p _ _ 5 _ [0] w8 (HG.out.below HB8.out) T1.out (HT.out.below (bel_trans HB3.out HB8.out)) (by decide) ok_0 (by decide)).mono ?_
  rintro e w9 ⟨v9, rfl, r1, r2⟩
  rw [ex_next] at r1
  have HB9 := Aside0.mk (bel_trans HB8.out r2)
  have T9 := Aside0.mk (OwI.toV r1)
  clear r1 r2 T1
  go_wp2_with fail
  obtain ⟨w10, hw10⟩ : ∃ w10, w9.alloc (Obj.cells #[Value.int .i64 1] 3) = w10 := ⟨_, rfl⟩
  rw [hw10]
  have b1 : Below w9.heap.size w9 w10 := by rw [← hw10]; exact below_alloc (Below.refl _ _) _
  have t1 : RdV w10 (.slice (some ⟨w9.heap.size, 0, none⟩) 1 1) [1] := rdV_lit (l := [1]) (by rw [← hw10]; exact heap_alloc_new _ _) rfl (by decide)
  have T1 := Aside0.mk t1
  have T9' := Aside0.mk (T9.out.below b1)
  have HB10 := Aside0.mk (bel_trans HB9.out b1)
  clear b1 hw10 t1 T9
  refine (same_any v9 _ [1] [1] w10 T9'.out T1.out).mono ?_
  rintro e w11 r
  obtain ⟨rfl, r2⟩ := r
  have d1 : decide (([1] : List Int) = [1]) = true := rfl
  rw [d1]
  clear d1
  go_wp2_with fail
  have HB11 := Aside0.mk (bel_trans HB10.out r2)
  clear r2 T1 T9'
  refine (fields_any p _ _ _ [] w11 (HG.out.below HB11.out) (OwI.nil w11 0).toV ex_okx (fun x h => by cases h) (by decide) (by decide)).mono ?_
  rintro e w12 ⟨v12, rfl, r1, r2⟩
  rw [ex_fields] at r1
  have HB12 := Aside0.mk (bel_trans HB11.out r2)
  have T12 := Aside0.mk (OwI.toV r1)
  clear r1 r2
  go_wp2_with fail
  obtain ⟨w13, hw13⟩ : ∃ w13, w12.alloc (Obj.cells #[Value.int .i64 5] 3) = w13 := ⟨_, rfl⟩
  rw [hw13]
  have b1 : Below w12.heap.size w12 w13 := by rw [← hw13]; exact below_alloc (Below.refl _ _) _
  have t1 : RdV w13 (.slice (some ⟨w12.heap.size, 0, none⟩) 1 1) [5] := rdV_lit (l := [5]) (by rw [← hw13]; exact heap_alloc_new _ _) rfl (by decide)
  have T1 := Aside0.mk t1
  have T12' := Aside0.mk (T12.out.below b1)
  have HB13 := Aside0.mk (bel_trans HB12.out b1)
  clear b1 hw13 t1 T12
  refine (same_any v12 _ [5] [5] w13 T12'.out T1.out).mono ?_
  rintro e w14 r
  obtain ⟨rfl, r2⟩ := r
  have d1 : decide (([5] : List Int) = [5]) = true := rfl
  rw [d1]
  have HB14 := Aside0.mk (bel_trans HB13.out r2)
  clear d1 r2 T1 T12'
  go_wp2_with fail
  obtain ⟨w15, hw15⟩ : ∃ w15, w14.alloc (Obj.cells #[Value.int .i64 0] 3) = w15 := ⟨_, rfl⟩
  rw [hw15]
  have b1 : Below w14.heap.size w14 w15 := by rw [← hw15]; exact below_alloc (Below.refl _ _) _
  have t1 : RdV w15 (.slice (some ⟨w14.heap.size, 0, none⟩) 1 1) [0] := rdV_lit (l := [0]) (by rw [← hw15]; exact heap_alloc_new _ _) rfl (by decide)
  have T1 := Aside0.mk t1
  have HB15 := Aside0.mk (bel_trans HB14.out b1)
  clear b1 hw15 t1
  refine (reach_any p _ _ _ [0] w15 (HG.out.below HB15.out) T1.out (HT.out.below (bel_trans HB3.out HB15.out)) (by decide) ex_ok ok_0 (by decide)).mono ?_
  rintro e w16 ⟨v16, rfl, r1, r2⟩
  have ee : reachG ([⟨#[65]⟩, ⟨#[66]⟩] : List ByteArray).length [(0, 5, 1)] [0] = [0, 1] := ex_reach
  rw [ee] at r1
  have HB16 := Aside0.mk (bel_trans HB15.out r2)
  have T16 := Aside0.mk (OwI.toV r1)
  clear r1 r2 T1 ee
  go_wp2_with fail
  obtain ⟨w17, hw17⟩ : ∃ w17, w16.alloc (Obj.cells #[Value.int .i64 0, Value.int .i64 1] 3) = w17 := ⟨_, rfl⟩
  rw [hw17]
  have b1 : Below w16.heap.size w16 w17 := by rw [← hw17]; exact below_alloc (Below.refl _ _) _
  have t1 : RdV w17 (.slice (some ⟨w16.heap.size, 0, none⟩) 2 2) [0, 1] := rdV_lit (l := [0, 1]) (by rw [← hw17]; exact heap_alloc_new _ _) rfl (by decide)
  have T1 := Aside0.mk t1
  have T16' := Aside0.mk (T16.out.below b1)
  have HB17 := Aside0.mk (bel_trans HB16.out b1)
  clear b1 hw17 t1 T16
  refine (same_any v16 _ [0, 1] [0, 1] w17 T16'.out T1.out).mono ?_
  rintro e w18 r
  obtain ⟨rfl, r2⟩ := r
  have d1 : decide (([0, 1] : List Int) = [0, 1]) = true := rfl
  rw [d1]
  have HB18 := Aside0.mk (bel_trans HB17.out r2)
  clear d1 r2 T1 T16'
  go_wp2_with fail
  go_ret
  exact ⟨rfl, bel_trans HB3.out HB18.out⟩
end Go.Proofs.YtfgonclaiphoeaaGreatDoor.Rf
