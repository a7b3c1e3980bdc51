/- Tf, Tg, Th -/
import Derived.Test.YtfgonclaiphoeaaGreatDoorTd
import Derived.Test.YtfgonclaiphoeaaGreatDoorTe
import Derived.Test.YtfgonclaiphoeaaGreatDoorZf
/- Tf: winnowerlaw22.same: a graph tells what the document's does. -/
section
namespace Go.Proofs.YtfgonclaiphoeaaGreatDoor.Tx
set_option linter.unusedVariables false
open Go.RowKit Go.Proofs.YtfgonclaiphoeaaGreatDoorW.PrintWords Go.Proofs.YtfgonclaiphoeaaGreatDoorW.PrintLast Go.Proofs.YtfgonclaiphoeaaGreatDoorW.PrintMore
open Go.Proofs.YtfgonclaiphoeaaGreatDoor.Base Go.Proofs.YtfgonclaiphoeaaGreatDoor.Map Go.Proofs.YtfgonclaiphoeaaGreatDoor.Sl Go.Proofs.YtfgonclaiphoeaaGreatDoor.Ow Go.Proofs.YtfgonclaiphoeaaGreatDoor.Se Go.Proofs.YtfgonclaiphoeaaGreatDoor.Gr Go.Proofs.YtfgonclaiphoeaaGreatDoor.Rf

set_option maxHeartbeats 16000000 in
set_option maxRecDepth 100000 in
theorem same_law (p : Nat) (A A2 : Option Addr) (c c2 : Nat) (T : List ByteArray) (E : List GE) (u : Value) (os : List Int) (f : Int) (w : World) (hG : GA w p T E) (hT : TZ w) (hRT : RdT w A T) (hRE : RdE w A2 E) (hu : RdV w u os)
    (hR : RightG T.length E) (hok : ∀ a f z, (a, f, z) ∈ E → ok64 f) (hoa : ∀ a f z, (a, f, z) ∈ E → ok64 a) (ho : ∀ x ∈ os, ok64 x) (hf : ok64 f) (hl : T.length ≤ 20 ∧ E.length ≤ 60 ∧ os.length ≤ 20) :
    Calls Tryz.prog 16 #[.pointer (some ⟨p, 0, none⟩), .agg #[.slice A T.length c, .slice A2 E.length c2], u, .int .i64 f] w fun e w' => e = .returned (.bool true) ∧ Below w.heap.size w w' := by
  have hal : Below w.heap.size w (w.alloc (.cells #[.slice A T.length c, .slice A2 E.length c2] 25)) := below_alloc (Below.refl _ _) _
  have Hb : Aside0 ((w.alloc (.cells #[.slice A T.length c, .slice A2 E.length c2] 25)).heap[w.heap.size]? = some (.cells #[.slice A T.length c, .slice A2 E.length c2] 25 (0, 0))) := ⟨heap_alloc_new _ _⟩
  have g0 : (w.alloc (.cells #[.slice A T.length c, .slice A2 E.length c2] 25)).cell? ⟨w.heap.size, 0, none⟩ = some (.slice A T.length c) := blk_cellD Hb.out 0 _ rfl
  have g1 : (w.alloc (.cells #[.slice A T.length c, .slice A2 E.length c2] 25)).cell? ⟨w.heap.size, 1, none⟩ = some (.slice A2 E.length c2) := blk_cellD Hb.out 1 _ rfl
  obtain ⟨W, hW⟩ : ∃ W, w.alloc (.cells #[.slice A T.length c, .slice A2 E.length c2] 25) = W := ⟨_, rfl⟩
  rw [hW] at hal g0 g1
  have C17 := Aside0.mk (fun (W' : World) (hb : Below W.heap.size W W') => fields_any p T E u os W' ((hG.below hal).below hb) ((hu.below hal).below hb) hoa ho (by omega) (by omega))
  have C30 := Aside0.mk (fun (W' : World) (hb : Below W.heap.size W W') => rfields_any A A2 T.length c c2 E u os W' ((hRE.below hal).below hb) ((hu.below hal).below hb) (by omega))
  have C10 := Aside0.mk (fun (W' : World) (hb : Below W.heap.size W W') => next_any p T E f u os W' ((hG.below hal).below hb) ((hu.below hal).below hb) ((hT.below hal).below hb) hf ho (by omega))
  have C31 := Aside0.mk (fun (W' : World) (hb : Below W.heap.size W W') => rnext_any A A2 T.length c c2 E f u os W' ((hRE.below hal).below hb) ((hu.below hal).below hb) (by omega))
  have C33 := Aside0.mk (fun (W' : World) (hb : Below W.heap.size W W') => types_any p T E u os W' ((hG.below hal).below hb) ((hu.below hal).below hb) (by omega))
  have C34 := Aside0.mk (fun (W' : World) (hb : Below W.heap.size W W') => rtypes_any A A2 c E.length c2 T u os W' ((hRT.below hal).below hb) ((hu.below hal).below hb) (by omega))
  have C11 := Aside0.mk (fun (W' : World) (hb : Below W.heap.size W W') => reach_any p T E u os W' ((hG.below hal).below hb) ((hu.below hal).below hb) ((hT.below hal).below hb) hR hok ho (by omega))
  have C20 := Aside0.mk (fun (W' : World) (hb : Below W.heap.size W W') => rreach_any A A2 T.length c c2 E u os W' ((hRE.below hal).below hb) ((hu.below hal).below hb) hR (by omega))
  have Hl := Aside0.mk hl
  obtain ⟨nT, hnT⟩ : ∃ n, T.length = n := ⟨_, rfl⟩
  obtain ⟨nE, hnE⟩ : ∃ n, E.length = n := ⟨_, rfl⟩
  rw [hnT, hnE] at hW ⊢
  rw [hnT] at g0 C30 C31 C34 C20
  rw [hnE] at g1 C30 C31 C34 C20
  have Hn := Aside0.mk (And.intro hnT hnE)
  have Hal := Aside0.mk hal
  clear hG hT hRT hRE hu hR hok hoa ho hf hl hal Hb hnT hnE
  go_enter Tryz.func16, Tryz.ntmps16
  go_wp2_with fail
  clear hW
  obtain ⟨g, hg⟩ : ∃ g, w.heap.size = g := ⟨_, rfl⟩
  rw [hg] at g0 g1
  have Hg := Aside0.mk hg
  simp only [hg]
  clear hg
  have HC := Aside0.mk (fun (W' : World) (hb : Below W.heap.size W W') => And.intro (cell_bel hb g0) (cell_bel hb g1))
  refine wp_region_held_drew (S := (fun W' => W'.cell? ⟨g, 0, none⟩ = some (.slice A nT c) ∧ W'.cell? ⟨g, 1, none⟩ = some (.slice A2 nE c2) ∧ Aside0 (Below W.heap.size W W'))) (by kernel_rfl) ?_ (fun hHeld => ?_)
  · exact ⟨(HC.out _ (below_drew (Below.refl _ _))).1, (HC.out _ (below_drew (Below.refl _ _))).2, ⟨below_drew (Below.refl _ _)⟩⟩
  refine wpAnyH_take (i := 0) (oi := _) (v := ?_) (List.getElem?_toArray.trans rfl) (by kernel_rfl) (by kernel_rfl) (by kernel_rfl) (fun _ _ _ h => h) (Or.inl ⟨by rfl, ?_⟩) (by assumption) ?_
  rotate_left
  · intro w hSw; (try dsimp only at hSw); go_simp <;> with_reducible rfl
  try simp only [Act.put, List.setIfInBounds_toArray, List.set_cons_zero, List.set_cons_succ]
  refine wpAnyH_take (i := 1) (oi := _) (v := ?_) (List.getElem?_toArray.trans rfl) (by kernel_rfl) (by kernel_rfl) (by kernel_rfl) (fun _ _ _ h => h) (Or.inl ⟨by rfl, ?_⟩) (by assumption) ?_
  rotate_left
  · intro w hSw; (try dsimp only at hSw); go_simp <;> with_reducible rfl
  try simp only [Act.put, List.setIfInBounds_toArray, List.set_cons_zero, List.set_cons_succ]
  refine wpAnyH_take (i := 3) (oi := _) (v := ?_) (List.getElem?_toArray.trans rfl) (by kernel_rfl) (by kernel_rfl) (by kernel_rfl) (fun _ _ _ h => h) (Or.inl ⟨by rfl, ?_⟩) (by assumption) ?_
  rotate_left
  · intro w hSw; (try dsimp only at hSw); go_simp <;> with_reducible rfl
  try simp only [Act.put, List.setIfInBounds_toArray, List.set_cons_zero, List.set_cons_succ]
  refine wpAnyH_take (i := 4) (oi := _) (v := ?_) (List.getElem?_toArray.trans rfl) (by kernel_rfl) (by kernel_rfl) (by kernel_rfl) (fun _ _ _ h => h) (Or.inl ⟨by rfl, ?_⟩) (by assumption) ?_
  rotate_left
  · intro w hSw; (try dsimp only at hSw); go_simp <;> with_reducible rfl
  try simp only [Act.put, List.setIfInBounds_toArray, List.set_cons_zero, List.set_cons_succ]
  refine wpAnyH_ready (rs := [2]) (by kernel_rfl) (by simp) ?_
  refine (AllReadyH.cons (o := _) (List.getElem?_toArray.trans rfl) (fun K hK => ?_) AllReadyH.nil)
  go_simp
  (with_reducible refine (C17.out _ (below_drew (Below.refl _ _))).mono ?_)
  rintro e w1 ⟨v1, rfl, r1, rb⟩
  have HB1 := Aside0.mk (bel_trans (below_drew (Below.refl _ _)) rb)
  have HV1 := Aside0.mk (OwI.toV r1)
  clear r1
  clear rb
  refine hK.out _ _ ?_ (fun hHeld => ?_)
  · exact ⟨(HC.out _ HB1.out).1, (HC.out _ HB1.out).2, HB1⟩
  clear hK K
  try simp only [Act.put, List.setIfInBounds_toArray, List.set_cons_zero, List.set_cons_succ]
  refine wpAnyH_ready (rs := [5]) (by kernel_rfl) (by simp) ?_
  refine (AllReadyH.cons (o := _) (List.getElem?_toArray.trans rfl) (fun K hK => ?_) AllReadyH.nil)
  go_simp
  (with_reducible refine (C30.out _ HB1.out).mono ?_)
  rintro e w2 ⟨v2, rfl, r1, rb⟩
  have HB2 := Aside0.mk (bel_trans HB1.out rb)
  have HV1' := Aside0.mk (HV1.out.below rb)
  have HV2 := Aside0.mk r1
  clear r1
  clear rb
  refine hK.out _ _ ?_ (fun hHeld => ?_)
  · exact ⟨(HC.out _ HB2.out).1, (HC.out _ HB2.out).2, HB2⟩
  clear hK K
  try simp only [Act.put, List.setIfInBounds_toArray, List.set_cons_zero, List.set_cons_succ]
  refine wpAnyH_ready (rs := [6]) (by kernel_rfl) (by simp) ?_
  refine (AllReadyH.cons (o := _) (List.getElem?_toArray.trans rfl) (fun K hK => ?_) AllReadyH.nil)
  go_simp
  (with_reducible refine (same_any _ _ _ _ _ HV1'.out HV2.out).mono ?_)
  rintro e w3 ⟨rfl, rb⟩
  have HB3 := Aside0.mk (bel_trans HB2.out rb)
  have d3 : decide (fieldsG E os = fieldsG E os) = true := decide_eq_true rfl
  rw [d3]
  clear d3
  clear rb
  refine hK.out _ _ ?_ (fun hHeld => ?_)
  · exact ⟨(HC.out _ HB3.out).1, (HC.out _ HB3.out).2, HB3⟩
  clear hK K
  try simp only [Act.put, List.setIfInBounds_toArray, List.set_cons_zero, List.set_cons_succ]
  refine wpAnyH_take (i := 7) (oi := _) (v := ?_) (List.getElem?_toArray.trans rfl) (by kernel_rfl) (by kernel_rfl) (by kernel_rfl) (fun _ _ _ h => h) (Or.inl ⟨by rfl, ?_⟩) (by assumption) ?_
  rotate_left
  · intro w hSw; (try dsimp only at hSw); go_simp <;> with_reducible rfl
  try simp only [Act.put, List.setIfInBounds_toArray, List.set_cons_zero, List.set_cons_succ]
  refine wpAnyH_take (i := 8) (oi := _) (v := ?_) (List.getElem?_toArray.trans rfl) (by kernel_rfl) (by kernel_rfl) (by kernel_rfl) (fun _ _ _ h => h) (Or.inl ⟨by rfl, ?_⟩) (by assumption) ?_
  rotate_left
  · intro w hSw; (try dsimp only at hSw); go_simp <;> with_reducible rfl
  try simp only [Act.put, List.setIfInBounds_toArray, List.set_cons_zero, List.set_cons_succ]
  refine wpAnyH_take (i := 9) (oi := _) (v := ?_) (List.getElem?_toArray.trans rfl) (by kernel_rfl) (by kernel_rfl) (by kernel_rfl) (fun _ _ _ h => h) (Or.inl ⟨by rfl, ?_⟩) (by assumption) ?_
  rotate_left
  · intro w hSw; (try dsimp only at hSw); go_simp <;> with_reducible rfl
  try simp only [Act.put, List.setIfInBounds_toArray, List.set_cons_zero, List.set_cons_succ]
  refine wpAnyH_take (i := 10) (oi := _) (v := ?_) (List.getElem?_toArray.trans rfl) (by kernel_rfl) (by kernel_rfl) (by kernel_rfl) (fun _ _ _ h => h) (Or.inl ⟨by rfl, ?_⟩) (by assumption) ?_
  rotate_left
  · intro w hSw; (try dsimp only at hSw); go_simp <;> with_reducible rfl
  try simp only [Act.put, List.setIfInBounds_toArray, List.set_cons_zero, List.set_cons_succ]
  refine wpAnyH_take (i := 12) (oi := _) (v := ?_) (List.getElem?_toArray.trans rfl) (by kernel_rfl) (by kernel_rfl) (by kernel_rfl) (fun _ _ _ h => h) (Or.inl ⟨by rfl, ?_⟩) (by assumption) ?_
  rotate_left
  · intro w hSw; (try dsimp only at hSw); go_simp <;> with_reducible rfl
  try simp only [Act.put, List.setIfInBounds_toArray, List.set_cons_zero, List.set_cons_succ]
  refine wpAnyH_take (i := 13) (oi := _) (v := ?_) (List.getElem?_toArray.trans rfl) (by kernel_rfl) (by kernel_rfl) (by kernel_rfl) (fun _ _ _ h => h) (Or.inl ⟨by rfl, ?_⟩) (by assumption) ?_
  rotate_left
  · intro w hSw; (try dsimp only at hSw); go_simp <;> with_reducible rfl
  try simp only [Act.put, List.setIfInBounds_toArray, List.set_cons_zero, List.set_cons_succ]
  refine wpAnyH_take (i := 14) (oi := _) (v := ?_) (List.getElem?_toArray.trans rfl) (by kernel_rfl) (by kernel_rfl) (by kernel_rfl) (fun _ _ _ h => h) (Or.inl ⟨by rfl, ?_⟩) (by assumption) ?_
  rotate_left
  · intro w hSw; (try dsimp only at hSw); go_simp <;> with_reducible rfl
  try simp only [Act.put, List.setIfInBounds_toArray, List.set_cons_zero, List.set_cons_succ]
  refine wpAnyH_ready (rs := [11]) (by kernel_rfl) (by simp) ?_
  refine (AllReadyH.cons (o := _) (List.getElem?_toArray.trans rfl) (fun K hK => ?_) AllReadyH.nil)
  go_simp
  (with_reducible refine (C10.out _ HB3.out).mono ?_)
  rintro e w4 ⟨v4, rfl, r1, rb⟩
  have HB4 := Aside0.mk (bel_trans HB3.out rb)
  have HV4 := Aside0.mk (OwI.toV r1)
  clear r1
  clear rb
  refine hK.out _ _ ?_ (fun hHeld => ?_)
  · exact ⟨(HC.out _ HB4.out).1, (HC.out _ HB4.out).2, HB4⟩
  clear hK K
  try simp only [Act.put, List.setIfInBounds_toArray, List.set_cons_zero, List.set_cons_succ]
  refine wpAnyH_ready (rs := [15]) (by kernel_rfl) (by simp) ?_
  refine (AllReadyH.cons (o := _) (List.getElem?_toArray.trans rfl) (fun K hK => ?_) AllReadyH.nil)
  go_simp
  (with_reducible refine (C31.out _ HB4.out).mono ?_)
  rintro e w5 ⟨v5, rfl, r1, rb⟩
  have HB5 := Aside0.mk (bel_trans HB4.out rb)
  have HV4' := Aside0.mk (HV4.out.below rb)
  have HV5 := Aside0.mk r1
  clear r1
  clear rb
  refine hK.out _ _ ?_ (fun hHeld => ?_)
  · exact ⟨(HC.out _ HB5.out).1, (HC.out _ HB5.out).2, HB5⟩
  clear hK K
  try simp only [Act.put, List.setIfInBounds_toArray, List.set_cons_zero, List.set_cons_succ]
  refine wpAnyH_ready (rs := [16]) (by kernel_rfl) (by simp) ?_
  refine (AllReadyH.cons (o := _) (List.getElem?_toArray.trans rfl) (fun K hK => ?_) AllReadyH.nil)
  go_simp
  (with_reducible refine (same_any _ _ _ _ _ HV4'.out HV5.out).mono ?_)
  rintro e w6 ⟨rfl, rb⟩
  have HB6 := Aside0.mk (bel_trans HB5.out rb)
  have d6 : decide (nextG E f os = nextG E f os) = true := decide_eq_true rfl
  rw [d6]
  clear d6
  clear rb
  refine hK.out _ _ ?_ (fun hHeld => ?_)
  · exact ⟨(HC.out _ HB6.out).1, (HC.out _ HB6.out).2, HB6⟩
  clear hK K
  try simp only [Act.put, List.setIfInBounds_toArray, List.set_cons_zero, List.set_cons_succ]
  refine wpAnyH_take (i := 17) (oi := _) (v := ?_) (List.getElem?_toArray.trans rfl) (by kernel_rfl) (by kernel_rfl) (by kernel_rfl) (fun _ _ _ h => h) (Or.inl ⟨by rfl, ?_⟩) (by assumption) ?_
  rotate_left
  · intro w hSw; (try dsimp only at hSw); go_simp <;> with_reducible rfl
  try simp only [Act.put, List.setIfInBounds_toArray, List.set_cons_zero, List.set_cons_succ]
  refine wpAnyH_take (i := 18) (oi := _) (v := ?_) (List.getElem?_toArray.trans rfl) (by kernel_rfl) (by kernel_rfl) (by kernel_rfl) (fun _ _ _ h => h) (Or.inl ⟨by rfl, ?_⟩) (by assumption) ?_
  rotate_left
  · intro w hSw; (try dsimp only at hSw); go_simp <;> with_reducible rfl
  try simp only [Act.put, List.setIfInBounds_toArray, List.set_cons_zero, List.set_cons_succ]
  refine wpAnyH_take (i := 19) (oi := _) (v := ?_) (List.getElem?_toArray.trans rfl) (by kernel_rfl) (by kernel_rfl) (by kernel_rfl) (fun _ _ _ h => h) (Or.inl ⟨by rfl, ?_⟩) (by assumption) ?_
  rotate_left
  · intro w hSw; (try dsimp only at hSw); go_simp <;> with_reducible rfl
  try simp only [Act.put, List.setIfInBounds_toArray, List.set_cons_zero, List.set_cons_succ]
  refine wpAnyH_take (i := 20) (oi := _) (v := ?_) (List.getElem?_toArray.trans rfl) (by kernel_rfl) (by kernel_rfl) (by kernel_rfl) (fun _ _ _ h => h) (Or.inl ⟨by rfl, ?_⟩) (by assumption) ?_
  rotate_left
  · intro w hSw; (try dsimp only at hSw); go_simp <;> with_reducible rfl
  try simp only [Act.put, List.setIfInBounds_toArray, List.set_cons_zero, List.set_cons_succ]
  refine wpAnyH_take (i := 22) (oi := _) (v := ?_) (List.getElem?_toArray.trans rfl) (by kernel_rfl) (by kernel_rfl) (by kernel_rfl) (fun _ _ _ h => h) (Or.inl ⟨by rfl, ?_⟩) (by assumption) ?_
  rotate_left
  · intro w hSw; (try dsimp only at hSw); go_simp <;> with_reducible rfl
  try simp only [Act.put, List.setIfInBounds_toArray, List.set_cons_zero, List.set_cons_succ]
  refine wpAnyH_take (i := 23) (oi := _) (v := ?_) (List.getElem?_toArray.trans rfl) (by kernel_rfl) (by kernel_rfl) (by kernel_rfl) (fun _ _ _ h => h) (Or.inl ⟨by rfl, ?_⟩) (by assumption) ?_
  rotate_left
  · intro w hSw; (try dsimp only at hSw); go_simp <;> with_reducible rfl
  try simp only [Act.put, List.setIfInBounds_toArray, List.set_cons_zero, List.set_cons_succ]
  refine wpAnyH_ready (rs := [21]) (by kernel_rfl) (by simp) ?_
  refine (AllReadyH.cons (o := _) (List.getElem?_toArray.trans rfl) (fun K hK => ?_) AllReadyH.nil)
  go_simp
  (with_reducible refine (C33.out _ HB6.out).mono ?_)
  rintro e w7 ⟨v7, S7, rfl, r1, r2, rb⟩
  have HB7 := Aside0.mk (bel_trans HB6.out rb)
  have HV7 := Aside0.mk r1
  have HS7 := Aside0.mk r2
  clear r1 r2
  clear rb
  refine hK.out _ _ ?_ (fun hHeld => ?_)
  · exact ⟨(HC.out _ HB7.out).1, (HC.out _ HB7.out).2, HB7⟩
  clear hK K
  try simp only [Act.put, List.setIfInBounds_toArray, List.set_cons_zero, List.set_cons_succ]
  refine wpAnyH_ready (rs := [24]) (by kernel_rfl) (by simp) ?_
  refine (AllReadyH.cons (o := _) (List.getElem?_toArray.trans rfl) (fun K hK => ?_) AllReadyH.nil)
  go_simp
  (with_reducible refine (C34.out _ HB7.out).mono ?_)
  rintro e w8 ⟨v8, S8, rfl, r1, r2, rb⟩
  have HB8 := Aside0.mk (bel_trans HB7.out rb)
  have HV7' := Aside0.mk (HV7.out.below rb)
  have hS := HS7.out.ext r2
  rw [hS] at HV7'
  have HV8 := Aside0.mk r1
  have HS8 := Aside0.mk r2
  clear r1 r2 hS
  clear rb
  refine hK.out _ _ ?_ (fun hHeld => ?_)
  · exact ⟨(HC.out _ HB8.out).1, (HC.out _ HB8.out).2, HB8⟩
  clear hK K
  try simp only [Act.put, List.setIfInBounds_toArray, List.set_cons_zero, List.set_cons_succ]
  refine wpAnyH_ready (rs := [25]) (by kernel_rfl) (by simp) ?_
  refine (AllReadyH.cons (o := _) (List.getElem?_toArray.trans rfl) (fun K hK => ?_) AllReadyH.nil)
  go_simp
  (with_reducible refine (texts_same _ _ _ _ HV7'.out HV8.out (by have := HS8.out.len; have := Hl.out; omega)).mono ?_)
  rintro e w9 ⟨rfl, rb⟩
  have HB9 := Aside0.mk (bel_trans HB8.out rb)
  clear rb
  refine hK.out _ _ ?_ (fun hHeld => ?_)
  · exact ⟨(HC.out _ HB9.out).1, (HC.out _ HB9.out).2, HB9⟩
  clear hK K
  try simp only [Act.put, List.setIfInBounds_toArray, List.set_cons_zero, List.set_cons_succ]
  refine wpAnyH_take (i := 26) (oi := _) (v := ?_) (List.getElem?_toArray.trans rfl) (by kernel_rfl) (by kernel_rfl) (by kernel_rfl) (fun _ _ _ h => h) (Or.inl ⟨by rfl, ?_⟩) (by assumption) ?_
  rotate_left
  · intro w hSw; (try dsimp only at hSw); go_simp <;> with_reducible rfl
  try simp only [Act.put, List.setIfInBounds_toArray, List.set_cons_zero, List.set_cons_succ]
  refine wpAnyH_take (i := 27) (oi := _) (v := ?_) (List.getElem?_toArray.trans rfl) (by kernel_rfl) (by kernel_rfl) (by kernel_rfl) (fun _ _ _ h => h) (Or.inl ⟨by rfl, ?_⟩) (by assumption) ?_
  rotate_left
  · intro w hSw; (try dsimp only at hSw); go_simp <;> with_reducible rfl
  try simp only [Act.put, List.setIfInBounds_toArray, List.set_cons_zero, List.set_cons_succ]
  refine wpAnyH_take (i := 28) (oi := _) (v := ?_) (List.getElem?_toArray.trans rfl) (by kernel_rfl) (by kernel_rfl) (by kernel_rfl) (fun _ _ _ h => h) (Or.inl ⟨by rfl, ?_⟩) (by assumption) ?_
  rotate_left
  · intro w hSw; (try dsimp only at hSw); go_simp <;> with_reducible rfl
  try simp only [Act.put, List.setIfInBounds_toArray, List.set_cons_zero, List.set_cons_succ]
  refine wpAnyH_take (i := 29) (oi := _) (v := ?_) (List.getElem?_toArray.trans rfl) (by kernel_rfl) (by kernel_rfl) (by kernel_rfl) (fun _ _ _ h => h) (Or.inl ⟨by rfl, ?_⟩) (by assumption) ?_
  rotate_left
  · intro w hSw; (try dsimp only at hSw); go_simp <;> with_reducible rfl
  try simp only [Act.put, List.setIfInBounds_toArray, List.set_cons_zero, List.set_cons_succ]
  refine wpAnyH_take (i := 31) (oi := _) (v := ?_) (List.getElem?_toArray.trans rfl) (by kernel_rfl) (by kernel_rfl) (by kernel_rfl) (fun _ _ _ h => h) (Or.inl ⟨by rfl, ?_⟩) (by assumption) ?_
  rotate_left
  · intro w hSw; (try dsimp only at hSw); go_simp <;> with_reducible rfl
  try simp only [Act.put, List.setIfInBounds_toArray, List.set_cons_zero, List.set_cons_succ]
  refine wpAnyH_take (i := 32) (oi := _) (v := ?_) (List.getElem?_toArray.trans rfl) (by kernel_rfl) (by kernel_rfl) (by kernel_rfl) (fun _ _ _ h => h) (Or.inl ⟨by rfl, ?_⟩) (by assumption) ?_
  rotate_left
  · intro w hSw; (try dsimp only at hSw); go_simp <;> with_reducible rfl
  try simp only [Act.put, List.setIfInBounds_toArray, List.set_cons_zero, List.set_cons_succ]
  refine wpAnyH_ready (rs := [30]) (by kernel_rfl) (by simp) ?_
  refine (AllReadyH.cons (o := _) (List.getElem?_toArray.trans rfl) (fun K hK => ?_) AllReadyH.nil)
  go_simp
  (with_reducible refine (C11.out _ HB9.out).mono ?_)
  rintro e w10 ⟨v10, rfl, r1, rb⟩
  have HB10 := Aside0.mk (bel_trans HB9.out rb)
  have HV10 := Aside0.mk (OwI.toV r1)
  rw [Hn.out.1] at HV10
  clear r1
  clear rb
  refine hK.out _ _ ?_ (fun hHeld => ?_)
  · exact ⟨(HC.out _ HB10.out).1, (HC.out _ HB10.out).2, HB10⟩
  clear hK K
  try simp only [Act.put, List.setIfInBounds_toArray, List.set_cons_zero, List.set_cons_succ]
  refine wpAnyH_ready (rs := [33]) (by kernel_rfl) (by simp) ?_
  refine (AllReadyH.cons (o := _) (List.getElem?_toArray.trans rfl) (fun K hK => ?_) AllReadyH.nil)
  go_simp
  (with_reducible refine (C20.out _ HB10.out).mono ?_)
  rintro e w11 ⟨v11, rfl, r1, rb⟩
  have HB11 := Aside0.mk (bel_trans HB10.out rb)
  have HV10' := Aside0.mk (HV10.out.below rb)
  have HV11 := Aside0.mk r1
  clear r1
  clear rb
  refine hK.out _ _ ?_ (fun hHeld => ?_)
  · exact ⟨(HC.out _ HB11.out).1, (HC.out _ HB11.out).2, HB11⟩
  clear hK K
  try simp only [Act.put, List.setIfInBounds_toArray, List.set_cons_zero, List.set_cons_succ]
  refine wpAnyH_ready (rs := [34]) (by kernel_rfl) (by simp) ?_
  refine (AllReadyH.cons (o := _) (List.getElem?_toArray.trans rfl) (fun K hK => ?_) AllReadyH.nil)
  go_simp
  (with_reducible refine (same_any _ _ _ _ _ HV10'.out HV11.out).mono ?_)
  rintro e w12 ⟨rfl, rb⟩
  have HB12 := Aside0.mk (bel_trans HB11.out rb)
  have d12 : decide (reachG nT E os = reachG nT E os) = true := decide_eq_true rfl
  rw [d12]
  clear d12
  clear rb
  refine hK.out _ _ ?_ (fun hHeld => ?_)
  · exact ⟨(HC.out _ HB12.out).1, (HC.out _ HB12.out).2, HB12⟩
  clear hK K
  try simp only [Act.put, List.setIfInBounds_toArray, List.set_cons_zero, List.set_cons_succ]
  refine wpAnyH_take (i := 35) (oi := _) (v := ?_) (List.getElem?_toArray.trans rfl) (by kernel_rfl) (by kernel_rfl) (by kernel_rfl) (fun _ _ _ h => h) (Or.inl ⟨by rfl, ?_⟩) (by assumption) ?_
  rotate_left
  · intro w hSw; (try dsimp only at hSw); go_simp <;> with_reducible rfl
  try simp only [Act.put, List.setIfInBounds_toArray, List.set_cons_zero, List.set_cons_succ]
  refine wpAnyH_take (i := 36) (oi := _) (v := ?_) (List.getElem?_toArray.trans rfl) (by kernel_rfl) (by kernel_rfl) (by kernel_rfl) (fun _ _ _ h => h) (Or.inl ⟨by rfl, ?_⟩) (by assumption) ?_
  rotate_left
  · intro w hSw; (try dsimp only at hSw); go_simp <;> with_reducible rfl
  try simp only [Act.put, List.setIfInBounds_toArray, List.set_cons_zero, List.set_cons_succ]
  refine wpAnyH_done (by kernel_rfl) ?_ _
  go_wp2_with fail
  go_ret
  exact ⟨rfl, bel_trans Hal.out HB12.out⟩
end Go.Proofs.YtfgonclaiphoeaaGreatDoor.Tx
end

/- Tg: GraphTells: two slices made of what came in, side by side. -/
section
namespace Go.Proofs.YtfgonclaiphoeaaGreatDoor.Tx
set_option linter.unusedVariables false
open Go.RowKit Go.Proofs.YtfgonclaiphoeaaGreatDoorW.PrintWords Go.Proofs.YtfgonclaiphoeaaGreatDoorW.PrintLast Go.Proofs.YtfgonclaiphoeaaGreatDoorW.PrintMore
open Go.Proofs.YtfgonclaiphoeaaGreatDoor.Base Go.Proofs.YtfgonclaiphoeaaGreatDoor.Map Go.Proofs.YtfgonclaiphoeaaGreatDoor.Sl Go.Proofs.YtfgonclaiphoeaaGreatDoor.Ow Go.Proofs.YtfgonclaiphoeaaGreatDoor.Se Go.Proofs.YtfgonclaiphoeaaGreatDoor.Gr Go.Proofs.YtfgonclaiphoeaaGreatDoor.Rf

structure OwE (w : World) (F : Nat → Prop) (v : Value) (l : List GE) : Prop where mk :: (out : Kd.R kE 44 w 0 F v l)
theorem OwE.toV {w : World} {F : Nat → Prop} {v : Value} {l : List GE} (h : OwE w F v l) : ∃ A c, v = .slice A l.length c ∧ RdE w A l := by
  obtain ⟨A, c, h1, h2, h3⟩ := Kd.R_reads h.out
  exact ⟨A, c, h1, ⟨h3⟩⟩
theorem info44 : (Tryz.prog.info? 44).map (fun i => (i.zero, i.size, i.bytes)) = some (some (.agg #[.int .i64 0, .int .i64 0, .int .i64 0]), 3, 24) := by kernel_rfl
theorem alloc_size (w : World) (o : Obj) : (w.alloc o).heap.size = w.heap.size + 1 := Array.size_push ..
section
variable {ops : Array Oper} {o : Oper} {a : Act} {Q : Exit → Act → World → Prop} {Kc : Act → World → Prop}
theorem appS_step {W : World} {G : Nat → Prop} (hw : Region.wanted o (yielded ops a.tmps) = true) (s x : Operand)
    (ho : o.op = .call { callee := .builtin .append, args := #[s, x], argTypes := #[22, 22] })
    (v : Value) (A : Option Addr) (c : Nat) (xs ys : List ByteArray) (hs : a.eval s = v) (hx : a.eval x = .slice A ys.length c)
    (HO : OwS W G v xs) (HR : RdT W A ys) (hl : (xs.length + ys.length) * 16 ≤ 140737488355328)
    (h : ∀ v1 w1, OwS w1 (ext G W w1) v1 (xs ++ ys) → Chg G W w1 → Kc (a.put o.dst v1) w1) :
    if Region.wanted o (yielded ops a.tmps) = true then Oper.wp Tryz.prog o a W Kc Q else Kc (a.put o.dst undef) W := by
  exact Kd.R_append_rows_step Kd.string (w0 := W) 0 hw s x 22 9 (.string ⟨#[]⟩) 16 ho Tryz.underlying22 info9 rfl (by decide) (by decide) v xs ys A _ c (fun k => G k ∨ W.heap.size ≤ k) (fun _ => False) hs hx (Kd.R_mono HO.out (fun k hk => .inl hk)) HR.out (fun _ _ hk => hk) (fun _ hk => hk.elim) (fun _ hk => .inr hk) (Below.refl _ _) (Nat.zero_le _) hl
    (fun v1 w1 ho hb hg hat => h v1 w1 ⟨Kd.R_mono (Kd.R_bound ho) (fun k hk => hk.1.elim .inl (fun h => .inr ⟨h, hk.2.2.1⟩))⟩ (Chg.of_grown hg (fun k hk => HO.out.1 k hk)))
theorem appE_step {W : World} {G : Nat → Prop} (hw : Region.wanted o (yielded ops a.tmps) = true) (s x : Operand)
    (ho : o.op = .call { callee := .builtin .append, args := #[s, x], argTypes := #[23, 23] })
    (v : Value) (A : Option Addr) (c : Nat) (xs ys : List GE) (hs : a.eval s = v) (hx : a.eval x = .slice A ys.length c)
    (HO : OwE W G v xs) (HR : RdE W A ys) (hl : (xs.length + ys.length) * 24 ≤ 140737488355328)
    (h : ∀ v1 w1, OwE w1 (ext G W w1) v1 (xs ++ ys) → Chg G W w1 → Kc (a.put o.dst v1) w1) :
    if Region.wanted o (yielded ops a.tmps) = true then Oper.wp Tryz.prog o a W Kc Q else Kc (a.put o.dst undef) W := by
  exact Kd.R_append_rows_step kE (w0 := W) 0 hw s x 23 44 (.agg #[.int .i64 0, .int .i64 0, .int .i64 0]) 24 ho Tryz.underlying23 info44 rfl (by decide) (by decide) v xs ys A _ c (fun k => G k ∨ W.heap.size ≤ k) (fun _ => False) hs hx (Kd.R_mono HO.out (fun k hk => .inl hk)) HR.out (fun _ _ hk => hk) (fun _ hk => hk.elim) (fun _ hk => .inr hk) (Below.refl _ _) (Nat.zero_le _) hl
    (fun v1 w1 ho hb hg hat => h v1 w1 ⟨Kd.R_mono (Kd.R_bound ho) (fun k hk => hk.1.elim .inl (fun h => .inr ⟨h, hk.2.2.1⟩))⟩ (Chg.of_grown hg (fun k hk => HO.out.1 k hk)))
end
/-- what lies there while the two slices are made -/
structure ST (W w : World) (FT : Nat → Prop) (vT : Value) (LT : List ByteArray) (FE : Nat → Prop) (vE : Value) (LE : List GE) : Prop where
  b : Below W.heap.size W w
  t : OwS w FT vT LT
  e : OwE w FE vE LE
  bt : ∀ k, FT k → W.heap.size ≤ k ∧ k < w.heap.size
  be : ∀ k, FE k → W.heap.size ≤ k ∧ k < w.heap.size
  d : ∀ k, FT k → ¬ FE k
section
variable {W w w1 : World} {FT FE : Nat → Prop} {vT vE v1 : Value} {LT : List ByteArray} {LE : List GE}
theorem ST.start (W : World) : ST W W (fun _ => False) (.slice none 0 0) [] (fun _ => False) (.slice none 0 0) [] :=
  ⟨Below.refl _ _, OwS.nil _ _, ⟨Kd.R_nil _ _ _ _ _⟩, fun _ h => h.elim, fun _ h => h.elim, fun _ h => h.elim⟩
theorem ST.below (h : ST W w FT vT LT FE vE LE) (hb : Below w.heap.size w w1) : ST W w1 FT vT LT FE vE LE :=
  ⟨bel_trans h.b hb, h.t.below hb, ⟨Kd.R_below h.e.out hb⟩, fun k hk => ⟨(h.bt k hk).1, Nat.lt_of_lt_of_le (h.bt k hk).2 hb.size⟩, fun k hk => ⟨(h.be k hk).1, Nat.lt_of_lt_of_le (h.be k hk).2 hb.size⟩, h.d⟩
theorem ST.allocT (h : ST W w FT vT LT FE vE LE) : ST W (w.alloc (.cells #[] 9)) (fun k => k = w.heap.size) (.slice (some ⟨w.heap.size, 0, none⟩) 0 0) [] FE vE LE := by
  have hb : Below w.heap.size w (w.alloc (.cells #[] 9)) := below_alloc (Below.refl _ _) _
  have h2 := h.below hb
  refine ⟨h2.b, OwS.of_block (cur := #[]) (l := []) rfl (heap_alloc_new _ _) (Nat.le_refl _) (by unfold maxLen; omega) rfl rfl, h2.e, fun k hk => ?_, h2.be, fun k hk he => ?_⟩
  · subst hk; have := h.b.size; rw [alloc_size]; exact ⟨by omega, by omega⟩
  · subst hk; exact Nat.lt_irrefl _ (h.be _ he).2
theorem ST.allocE (h : ST W w FT vT LT FE vE LE) : ST W (w.alloc (.cells #[] 44)) FT vT LT (fun k => k = w.heap.size) (.slice (some ⟨w.heap.size, 0, none⟩) 0 0) [] := by
  have hb : Below w.heap.size w (w.alloc (.cells #[] 44)) := below_alloc (Below.refl _ _) _
  have h2 := h.below hb
  refine ⟨h2.b, h2.t, ⟨⟨fun k hk => by cases hk; rfl, [], ⟨rfl, .inr ⟨w.heap.size, 0, #[], rfl, Nat.zero_le _, heap_alloc_new _ _, Nat.le_refl _, by unfold maxLen; omega, rfl, rfl⟩⟩, rfl, fun i p hi => by simp at hi⟩⟩, h2.bt, fun k hk => ?_, fun k hk he => ?_⟩
  · subst hk; have := h.b.size; rw [alloc_size]; exact ⟨by omega, by omega⟩
  · subst he; exact Nat.lt_irrefl _ (h.bt _ hk).2
theorem ST.appT (h : ST W w FT vT [] FE vE LE) {T : List ByteArray} (ho : OwS w1 (ext FT w w1) v1 ([] ++ T)) (hc : Chg FT w w1) : ST W w1 (ext FT w w1) v1 T FE vE LE :=
  ⟨chg_own h.b (fun k hk => (h.bt k hk).1) hc, ho, ⟨Kd.R_step h.e.out (fun k hk hlt => hc.block k hlt (fun ht => h.d k ht hk))⟩,
    fun k hk => hk.elim (fun hk => ⟨(h.bt k hk).1, Nat.lt_of_lt_of_le (h.bt k hk).2 hc.size⟩) (fun hk => ⟨Nat.le_trans h.b.size hk.1, hk.2⟩),
    fun k hk => ⟨(h.be k hk).1, Nat.lt_of_lt_of_le (h.be k hk).2 hc.size⟩,
    fun k hk he => hk.elim (fun hk => h.d k hk he) (fun hk => by have h1 := hk.1; have := (h.be k he).2; omega)⟩
theorem ST.appE (h : ST W w FT vT LT FE vE []) {E : List GE} (ho : OwE w1 (ext FE w w1) v1 ([] ++ E)) (hc : Chg FE w w1) : ST W w1 FT vT LT (ext FE w w1) v1 E :=
  ⟨chg_own h.b (fun k hk => (h.be k hk).1) hc, h.t.chg hc (fun k hk he => h.d k hk he), ho,
    fun k hk => ⟨(h.bt k hk).1, Nat.lt_of_lt_of_le (h.bt k hk).2 hc.size⟩,
    fun k hk => hk.elim (fun hk => ⟨(h.be k hk).1, Nat.lt_of_lt_of_le (h.be k hk).2 hc.size⟩) (fun hk => ⟨Nat.le_trans h.b.size hk.1, hk.2⟩),
    fun k hk he => he.elim (fun he => h.d k hk he) (fun he => by have h1 := he.1; have := (h.bt k hk).2; omega)⟩
end
/-- New, with where the graph lies -/
theorem new_far (A : Option Addr) (c : Nat) (T : List ByteArray) (A2 : Option Addr) (c2 : Nat) (E : List GE) (w : World) (hT : RdT w A T) (hE : RdE w A2 E) (hl : T.length ≤ 1000) (hl2 : E.length ≤ 1000) (hok : ∀ a f z, (a, f, z) ∈ E → ok64 f) (hR : RightG T.length E) :
    Calls Tryz.prog 9 #[.slice A T.length c, .slice A2 E.length c2] w fun e w' => ∃ p lab, e = .returned (.tuple #[.pointer (some ⟨p, 0, none⟩), .int .i64 0]) ∧ GN w' lab p T E ∧ (∀ k, lab k ≠ none → w.heap.size ≤ k) ∧ Below w.heap.size w w' :=
  (new_walk A c T A2 c2 E w hT hE hl hl2 hok).mono fun e w' h => h.elim (fun ⟨_, p, lab, h1, h2, h3, h4⟩ => ⟨p, lab, h1, h2, h3, h4⟩) (fun h => absurd hR h.1)
end Go.Proofs.YtfgonclaiphoeaaGreatDoor.Tx
end

/- Th: GraphTells: its walk. -/
section
namespace Go.Proofs.YtfgonclaiphoeaaGreatDoor.Tx
set_option linter.unusedVariables false
open Go.RowKit Go.Proofs.YtfgonclaiphoeaaGreatDoorW.PrintWords Go.Proofs.YtfgonclaiphoeaaGreatDoorW.PrintLast Go.Proofs.YtfgonclaiphoeaaGreatDoorW.PrintMore
open Go.Proofs.YtfgonclaiphoeaaGreatDoor.Base Go.Proofs.YtfgonclaiphoeaaGreatDoor.Map Go.Proofs.YtfgonclaiphoeaaGreatDoor.Sl Go.Proofs.YtfgonclaiphoeaaGreatDoor.Ow Go.Proofs.YtfgonclaiphoeaaGreatDoor.Se Go.Proofs.YtfgonclaiphoeaaGreatDoor.Gr Go.Proofs.YtfgonclaiphoeaaGreatDoor.Rf

theorem OwS.put {w : World} {F : Nat → Prop} {g cap : Nat} {L : List ByteArray} (h : OwS w F (.slice (some ⟨g, 0, none⟩) L.length cap) L) (i : Nat) (x : ByteArray) : OwS (w.setCell ⟨g, i, none⟩ (.string x)) F (.slice (some ⟨g, 0, none⟩) L.length cap) (L.set i x) := by
  have h2 := (Kd.R_put h.out (i : Int) x).1
  rw [Int.toNat_natCast] at h2
  exact ⟨h2⟩
theorem OwS.free {w : World} {F : Nat → Prop} {g n cap : Nat} {L : List ByteArray} (h : OwS w F (.slice (some ⟨g, 0, none⟩) n cap) L) (i : Nat) : w.frozen? ⟨g, i, none⟩ = false := by
  obtain ⟨inner, ho⟩ := Kd.R_own h.out
  obtain ⟨cells, hc⟩ := own_typed ho g rfl
  exact blk_frozen hc i
/-- where such a slice lies, if it holds something -/
theorem OwS.at_ {w : World} {F : Nat → Prop} {A : Option Addr} {n c : Nat} {L : List ByteArray} (h : OwS w F (.slice A n c) L) (h0 : 0 < L.length) : ∃ g, A = some ⟨g, 0, none⟩ ∧ n = L.length ∧ F g ∧ ∀ j, j < L.length → ∃ y, w.cell? ⟨g, j, none⟩ = some (.string y) := by
  rcases h.form with ⟨_, h1⟩ | ⟨g, cap, cur, h1, h2, h3, _, _, h5, h6⟩
  · rw [h1] at h0; cases h0
  · injection h1 with e1 e2 e3
    refine ⟨g, e1, e2, h2, fun j hj => ⟨L[j], Rf.blk_cellD h3 j _ ?_⟩⟩
    have e := congrArg (·[j]?) h6
    simp only [List.getElem?_take, hj, if_true] at e
    rw [← Array.getElem?_toList, e, List.getElem?_map, List.getElem?_eq_getElem hj]; rfl

set_option maxHeartbeats 16000000 in
set_option maxRecDepth 100000 in
theorem tells_walk (A A2 : Option Addr) (c c2 : Nat) (T : List ByteArray) (E : List GE) (u : Value) (os : List Int) (f : Int) (w : World) (hT : TZ w) (hRT : RdT w A T) (hRE : RdE w A2 E) (hu : RdV w u os)
    (hok : ∀ a f z, (a, f, z) ∈ E → ok64 f) (hoa : ∀ a f z, (a, f, z) ∈ E → ok64 a) (ho : ∀ x ∈ os, ok64 x) (hf : ok64 f) :
    Calls Tryz.prog 4 #[.agg #[.slice A T.length c, .slice A2 E.length c2], u, .int .i64 f] w fun e w' => e = .returned (.bool true) ∧ Below w.heap.size w w' := by
  obtain ⟨A3, c3, rfl, hc3, hr3⟩ := hu
  obtain ⟨nT, hnT⟩ : ∃ n, T.length = n := ⟨_, rfl⟩
  obtain ⟨nE, hnE⟩ : ∃ n, E.length = n := ⟨_, rfl⟩
  obtain ⟨n3, hn3⟩ : ∃ n, os.length = n := ⟨_, rfl⟩
  have HU := Aside0.mk (show RdV w (.slice A3 os.length c3) os from ⟨A3, c3, rfl, hc3, hr3⟩)
  have HT := Aside0.mk hT
  have HRT := Aside0.mk hRT
  have HRE := Aside0.mk hRE
  have Hok := Aside0.mk (And.intro hok (And.intro ho (And.intro hf hoa)))
  have Hn := Aside0.mk (And.intro hnT (And.intro hnE hn3))
  rw [hnT, hnE, hn3]
  clear hT hRT hRE hok ho hf hoa hc3 hr3 hnT hnE hn3
  obtain ⟨w0, hw0⟩ : ∃ w0, w.alloc (.cells #[.slice A nT c, .slice A2 nE c2] 25) = w0 := ⟨_, rfl⟩
  have HB0 := Aside0.mk (show Below w.heap.size w w0 by rw [← hw0]; exact below_alloc (Below.refl _ _) _)
  have Hb0 := Aside0.mk (show w0.heap[w.heap.size]? = some (.cells #[.slice A nT c, .slice A2 nE c2] 25 (0, 0)) by rw [← hw0]; exact heap_alloc_new _ _)
  go_enter Tryz.func4, Tryz.ntmps4
  go_wp2_with fail
  clear hw0
  obtain ⟨g, hg⟩ : ∃ g, w.heap.size = g := ⟨_, rfl⟩
  have Hg := Aside0.mk hg
  rw [hg] at Hb0
  simp only [hg]
  clear hg
  refine (awake_any w0 (HT.out.below HB0.out)).mono ?_
  rintro e w1 ⟨rfl, r1⟩
  have HB1 := Aside0.mk (bel_trans HB0.out r1)
  have Hb1 := Aside0.mk (Ow.blk_below Hb0.out r1)
  have g0 : w1.cell? ⟨g, 0, none⟩ = some (.slice A nT c) := blk_cellD Hb1.out 0 _ rfl
  have g1 : w1.cell? ⟨g, 1, none⟩ = some (.slice A2 nE c2) := blk_cellD Hb1.out 1 _ rfl
  clear r1
  go_wp2_with fail
  refine (small_any A A2 nT c nE c2 w1).mono ?_
  rintro e w2 ⟨rfl, r1⟩
  have HB2 := Aside0.mk (bel_trans HB1.out r1)
  have Hb2 := Aside0.mk (Ow.blk_below Hb1.out r1)
  have g0 : w2.cell? ⟨g, 0, none⟩ = some (.slice A nT c) := blk_cellD Hb2.out 0 _ rfl
  have g1 : w2.cell? ⟨g, 1, none⟩ = some (.slice A2 nE c2) := blk_cellD Hb2.out 1 _ rfl
  clear r1
  by_cases hsm : nT ≤ 20 ∧ nE ≤ 60
  case neg =>
    have d1 : decide (nT ≤ 20 ∧ nE ≤ 60) = false := decide_eq_false hsm
    rw [d1]
    clear d1 hsm
    go_wp2_with fail
    refine (awake_any w2 (HT.out.below HB2.out)).mono ?_
    rintro e w3 ⟨rfl, r1⟩
    have HBx := Aside0.mk (bel_trans HB2.out r1)
    clear r1
    go_wp2_with fail
    go_ret
    exact ⟨rfl, HBx.out⟩
  have d1 : decide (nT ≤ 20 ∧ nE ≤ 60) = true := decide_eq_true hsm
  rw [d1]
  have Hsm := Aside0.mk hsm
  clear d1 hsm
  by_cases h3 : n3 ≤ 20
  case neg =>
    have d1 : decide ((n3 : Int) > 20) = true := decide_eq_true (by omega)
    have d2 : decide ((20 : Int) < (n3 : Int)) = true := decide_eq_true (by omega)
    have h3' : (20 : Int) < (n3 : Int) := by omega
    go_wp2_with fail
    refine (awake_any w2 (HT.out.below HB2.out)).mono ?_
    rintro e w3 ⟨rfl, r1⟩
    have HBx := Aside0.mk (bel_trans HB2.out r1)
    clear r1
    go_wp2_with fail
    go_ret
    exact ⟨rfl, HBx.out⟩
  have d1 : decide ((n3 : Int) > 20) = false := decide_eq_false (by omega)
  have d2 : decide ((20 : Int) < (n3 : Int)) = false := decide_eq_false (by omega)
  have h3' : ¬ (20 : Int) < (n3 : Int) := by omega
  have H3 := Aside0.mk h3
  clear h3
  go_upto_region 3 with fail
  go_cut [7, 8] from 26 to 33 (fun v7 v8 wc => ∃ FT FE, Aside0 (ST w2 wc FT v7 T FE v8 E))
  case first =>
    have HC := Aside0.mk (fun (W' : World) (hb : Below w2.heap.size w2 W') => And.intro (cell_bel hb g0) (cell_bel hb g1))
    have HLT := Aside0.mk (fun (W' : World) (hb : Below w2.heap.size w2 W') => (HRT.out.below HB2.out).below hb)
    have HLE := Aside0.mk (fun (W' : World) (hb : Below w2.heap.size w2 W') => (HRE.out.below HB2.out).below hb)
    have HST := Aside0.mk ((ST.start w2).below (below_drew (Below.refl _ _)))
    refine wp_region_held_drew (S := (fun W' => W'.cell? ⟨g, 0, none⟩ = some (.slice A nT c) ∧ W'.cell? ⟨g, 1, none⟩ = some (.slice A2 nE c2) ∧ Aside0 (Below w2.heap.size w2 W'))) (by kernel_rfl) ?_ (fun hHeld => ?_)
    · exact ⟨(HC.out _ HST.out.b).1, (HC.out _ HST.out.b).2, ⟨HST.out.b⟩⟩
    refine wpAnyH_take (i := 1) (oi := _) (v := ?_) (List.getElem?_toArray.trans rfl) (by kernel_rfl) (by kernel_rfl) (by kernel_rfl) (fun _ _ _ h => h) (Or.inl ⟨by rfl, ?_⟩) (by assumption) ?_
    rotate_left
    · intro w hSw; (try dsimp only at hSw); go_simp <;> with_reducible rfl
    try simp only [Act.put, List.setIfInBounds_toArray, List.set_cons_zero, List.set_cons_succ]
    refine wpAnyH_take (i := 2) (oi := _) (v := ?_) (List.getElem?_toArray.trans rfl) (by kernel_rfl) (by kernel_rfl) (by kernel_rfl) (fun _ _ _ h => h) (Or.inl ⟨by rfl, ?_⟩) (by assumption) ?_
    rotate_left
    · intro w hSw; (try dsimp only at hSw); go_simp <;> with_reducible rfl
    try simp only [Act.put, List.setIfInBounds_toArray, List.set_cons_zero, List.set_cons_succ]
    refine wpAnyH_take (i := 5) (oi := _) (v := ?_) (List.getElem?_toArray.trans rfl) (by kernel_rfl) (by kernel_rfl) (by kernel_rfl) (fun _ _ _ h => h) (Or.inl ⟨by rfl, ?_⟩) (by assumption) ?_
    rotate_left
    · intro w hSw; (try dsimp only at hSw); go_simp <;> with_reducible rfl
    try simp only [Act.put, List.setIfInBounds_toArray, List.set_cons_zero, List.set_cons_succ]
    refine wpAnyH_take (i := 6) (oi := _) (v := ?_) (List.getElem?_toArray.trans rfl) (by kernel_rfl) (by kernel_rfl) (by kernel_rfl) (fun _ _ _ h => h) (Or.inl ⟨by rfl, ?_⟩) (by assumption) ?_
    rotate_left
    · intro w hSw; (try dsimp only at hSw); go_simp <;> with_reducible rfl
    try simp only [Act.put, List.setIfInBounds_toArray, List.set_cons_zero, List.set_cons_succ]
    refine wpAnyH_ready (rs := [0, 4]) (by kernel_rfl) (by simp) ?_
    refine (AllReadyH.cons (o := _) (List.getElem?_toArray.trans rfl) (fun K hK => ?_) (AllReadyH.cons (o := _) (List.getElem?_toArray.trans rfl) (fun K hK => ?_) AllReadyH.nil))
    · go_simp
      have HST1 := Aside0.mk (((ST.start w2).allocT).below (below_drew (Below.refl _ _)))
      clear HST
      have HST := HST1
      clear HST1
      refine hK.out _ _ ?_ (fun hHeld => ?_)
      · exact ⟨(HC.out _ HST.out.b).1, (HC.out _ HST.out.b).2, ⟨HST.out.b⟩⟩
      clear hK K
      try simp only [Act.put, List.setIfInBounds_toArray, List.set_cons_zero, List.set_cons_succ]
      generalize (w2.alloc (.cells #[] 9)).drew = wk1 at HST hHeld ⊢
      refine wpAnyH_ready (rs := [3, 4]) (by kernel_rfl) (by simp) ?_
      refine (AllReadyH.cons (o := _) (List.getElem?_toArray.trans rfl) (fun K hK => ?_) (AllReadyH.cons (o := _) (List.getElem?_toArray.trans rfl) (fun K hK => ?_) AllReadyH.nil))
      · refine appS_step (by rfl) (.tmp 26) (.tmp 28) (by rfl) _ A c [] T (by rfl) (by rw [Hn.out.1]; rfl) HST.out.t (HLT.out _ HST.out.b) (by have := Hn.out.1; have := Hsm.out; simp; omega) ?_
        intro v29 wk2 ho hc
        have HST2 := Aside0.mk (HST.out.appT ho hc)
        clear HST ho hc
        have HST := HST2
        clear HST2
        refine hK.out _ _ ?_ (fun hHeld => ?_)
        · exact ⟨(HC.out _ HST.out.b).1, (HC.out _ HST.out.b).2, ⟨HST.out.b⟩⟩
        clear hK K
        try simp only [Act.put, List.setIfInBounds_toArray, List.set_cons_zero, List.set_cons_succ]
        refine wpAnyH_ready (rs := [4]) (by kernel_rfl) (by simp) ?_
        refine (AllReadyH.cons (o := _) (List.getElem?_toArray.trans rfl) (fun K hK => ?_) AllReadyH.nil)
        go_simp
        have HST3 := Aside0.mk (HST.out.allocE)
        clear HST
        have HST := HST3
        clear HST3
        refine hK.out _ _ ?_ (fun hHeld => ?_)
        · exact ⟨(HC.out _ HST.out.b).1, (HC.out _ HST.out.b).2, ⟨HST.out.b⟩⟩
        clear hK K
        try simp only [Act.put, List.setIfInBounds_toArray, List.set_cons_zero, List.set_cons_succ]
        generalize wk2.alloc (.cells #[] 44) = wk3 at HST hHeld ⊢
        refine wpAnyH_ready (rs := [7]) (by kernel_rfl) (by simp) ?_
        refine (AllReadyH.cons (o := _) (List.getElem?_toArray.trans rfl) (fun K hK => ?_) AllReadyH.nil)
        refine appE_step (by rfl) (.tmp 30) (.tmp 32) (by rfl) _ A2 c2 [] E (by rfl) (by rw [Hn.out.2.1]; rfl) HST.out.e (HLE.out _ HST.out.b) (by have := Hn.out.2.1; have := Hsm.out; simp; omega) ?_
        intro v33 wk4 ho hc
        have HST4 := Aside0.mk (HST.out.appE ho hc)
        clear HST ho hc
        have HST := HST4
        clear HST4
        refine hK.out _ _ ?_ (fun hHeld => ?_)
        · exact ⟨(HC.out _ HST.out.b).1, (HC.out _ HST.out.b).2, ⟨HST.out.b⟩⟩
        clear hK K
        try simp only [Act.put, List.setIfInBounds_toArray, List.set_cons_zero, List.set_cons_succ]
        refine wpAnyH_ready (rs := [8]) (by kernel_rfl) (by simp) ?_
        refine (AllReadyH.cons (o := _) (List.getElem?_toArray.trans rfl) (fun K hK => ?_) AllReadyH.nil)
        go_simp
        refine hK.out _ _ ?_ (fun hHeld => ?_)
        · exact ⟨(HC.out _ HST.out.b).1, (HC.out _ HST.out.b).2, ⟨HST.out.b⟩⟩
        clear hK K
        try simp only [Act.put, List.setIfInBounds_toArray, List.set_cons_zero, List.set_cons_succ]
        refine wpAnyH_ready (rs := [9]) (by kernel_rfl) (by simp) ?_
        refine (AllReadyH.cons (o := _) (List.getElem?_toArray.trans rfl) (fun K hK => ?_) AllReadyH.nil)
        go_simp
        refine hK.out _ _ ?_ (fun hHeld => ?_)
        · exact ⟨(HC.out _ HST.out.b).1, (HC.out _ HST.out.b).2, ⟨HST.out.b⟩⟩
        clear hK K
        try simp only [Act.put, List.setIfInBounds_toArray, List.set_cons_zero, List.set_cons_succ]
        refine wpAnyH_done (by kernel_rfl) ?_ _
        go_wp2_with fail
        go_meet
        case rel => exact ⟨_, _, HST⟩
      · go_simp
        have HST7 := Aside0.mk (HST.out.allocE)
        clear HST
        have HST := HST7
        clear HST7
        refine hK.out _ _ ?_ (fun hHeld => ?_)
        · exact ⟨(HC.out _ HST.out.b).1, (HC.out _ HST.out.b).2, ⟨HST.out.b⟩⟩
        clear hK K
        try simp only [Act.put, List.setIfInBounds_toArray, List.set_cons_zero, List.set_cons_succ]
        generalize wk1.alloc (.cells #[] 44) = wk7 at HST hHeld ⊢
        refine wpAnyH_ready (rs := [3]) (by kernel_rfl) (by simp) ?_
        refine (AllReadyH.cons (o := _) (List.getElem?_toArray.trans rfl) (fun K hK => ?_) AllReadyH.nil)
        refine appS_step (by rfl) (.tmp 26) (.tmp 28) (by rfl) _ A c [] T (by rfl) (by rw [Hn.out.1]; rfl) HST.out.t (HLT.out _ HST.out.b) (by have := Hn.out.1; have := Hsm.out; simp; omega) ?_
        intro v29 wk8 ho hc
        have HST8 := Aside0.mk (HST.out.appT ho hc)
        clear HST ho hc
        have HST := HST8
        clear HST8
        refine hK.out _ _ ?_ (fun hHeld => ?_)
        · exact ⟨(HC.out _ HST.out.b).1, (HC.out _ HST.out.b).2, ⟨HST.out.b⟩⟩
        clear hK K
        try simp only [Act.put, List.setIfInBounds_toArray, List.set_cons_zero, List.set_cons_succ]
        refine wpAnyH_ready (rs := [7]) (by kernel_rfl) (by simp) ?_
        refine (AllReadyH.cons (o := _) (List.getElem?_toArray.trans rfl) (fun K hK => ?_) AllReadyH.nil)
        refine appE_step (by rfl) (.tmp 30) (.tmp 32) (by rfl) _ A2 c2 [] E (by rfl) (by rw [Hn.out.2.1]; rfl) HST.out.e (HLE.out _ HST.out.b) (by have := Hn.out.2.1; have := Hsm.out; simp; omega) ?_
        intro v33 wk9 ho hc
        have HST9 := Aside0.mk (HST.out.appE ho hc)
        clear HST ho hc
        have HST := HST9
        clear HST9
        refine hK.out _ _ ?_ (fun hHeld => ?_)
        · exact ⟨(HC.out _ HST.out.b).1, (HC.out _ HST.out.b).2, ⟨HST.out.b⟩⟩
        clear hK K
        try simp only [Act.put, List.setIfInBounds_toArray, List.set_cons_zero, List.set_cons_succ]
        refine wpAnyH_ready (rs := [8]) (by kernel_rfl) (by simp) ?_
        refine (AllReadyH.cons (o := _) (List.getElem?_toArray.trans rfl) (fun K hK => ?_) AllReadyH.nil)
        go_simp
        refine hK.out _ _ ?_ (fun hHeld => ?_)
        · exact ⟨(HC.out _ HST.out.b).1, (HC.out _ HST.out.b).2, ⟨HST.out.b⟩⟩
        clear hK K
        try simp only [Act.put, List.setIfInBounds_toArray, List.set_cons_zero, List.set_cons_succ]
        refine wpAnyH_ready (rs := [9]) (by kernel_rfl) (by simp) ?_
        refine (AllReadyH.cons (o := _) (List.getElem?_toArray.trans rfl) (fun K hK => ?_) AllReadyH.nil)
        go_simp
        refine hK.out _ _ ?_ (fun hHeld => ?_)
        · exact ⟨(HC.out _ HST.out.b).1, (HC.out _ HST.out.b).2, ⟨HST.out.b⟩⟩
        clear hK K
        try simp only [Act.put, List.setIfInBounds_toArray, List.set_cons_zero, List.set_cons_succ]
        refine wpAnyH_done (by kernel_rfl) ?_ _
        go_wp2_with fail
        go_meet
        case rel => exact ⟨_, _, HST⟩
    · go_simp
      have HST12 := Aside0.mk (((ST.start w2).allocE).below (below_drew (Below.refl _ _)))
      clear HST
      have HST := HST12
      clear HST12
      refine hK.out _ _ ?_ (fun hHeld => ?_)
      · exact ⟨(HC.out _ HST.out.b).1, (HC.out _ HST.out.b).2, ⟨HST.out.b⟩⟩
      clear hK K
      try simp only [Act.put, List.setIfInBounds_toArray, List.set_cons_zero, List.set_cons_succ]
      generalize (w2.alloc (.cells #[] 44)).drew = wk12 at HST hHeld ⊢
      refine wpAnyH_ready (rs := [0]) (by kernel_rfl) (by simp) ?_
      refine (AllReadyH.cons (o := _) (List.getElem?_toArray.trans rfl) (fun K hK => ?_) AllReadyH.nil)
      go_simp
      have HST13 := Aside0.mk (HST.out.allocT)
      clear HST
      have HST := HST13
      clear HST13
      refine hK.out _ _ ?_ (fun hHeld => ?_)
      · exact ⟨(HC.out _ HST.out.b).1, (HC.out _ HST.out.b).2, ⟨HST.out.b⟩⟩
      clear hK K
      try simp only [Act.put, List.setIfInBounds_toArray, List.set_cons_zero, List.set_cons_succ]
      generalize wk12.alloc (.cells #[] 9) = wk13 at HST hHeld ⊢
      refine wpAnyH_ready (rs := [3]) (by kernel_rfl) (by simp) ?_
      refine (AllReadyH.cons (o := _) (List.getElem?_toArray.trans rfl) (fun K hK => ?_) AllReadyH.nil)
      refine appS_step (by rfl) (.tmp 26) (.tmp 28) (by rfl) _ A c [] T (by rfl) (by rw [Hn.out.1]; rfl) HST.out.t (HLT.out _ HST.out.b) (by have := Hn.out.1; have := Hsm.out; simp; omega) ?_
      intro v29 wk14 ho hc
      have HST14 := Aside0.mk (HST.out.appT ho hc)
      clear HST ho hc
      have HST := HST14
      clear HST14
      refine hK.out _ _ ?_ (fun hHeld => ?_)
      · exact ⟨(HC.out _ HST.out.b).1, (HC.out _ HST.out.b).2, ⟨HST.out.b⟩⟩
      clear hK K
      try simp only [Act.put, List.setIfInBounds_toArray, List.set_cons_zero, List.set_cons_succ]
      refine wpAnyH_ready (rs := [7]) (by kernel_rfl) (by simp) ?_
      refine (AllReadyH.cons (o := _) (List.getElem?_toArray.trans rfl) (fun K hK => ?_) AllReadyH.nil)
      refine appE_step (by rfl) (.tmp 30) (.tmp 32) (by rfl) _ A2 c2 [] E (by rfl) (by rw [Hn.out.2.1]; rfl) HST.out.e (HLE.out _ HST.out.b) (by have := Hn.out.2.1; have := Hsm.out; simp; omega) ?_
      intro v33 wk15 ho hc
      have HST15 := Aside0.mk (HST.out.appE ho hc)
      clear HST ho hc
      have HST := HST15
      clear HST15
      refine hK.out _ _ ?_ (fun hHeld => ?_)
      · exact ⟨(HC.out _ HST.out.b).1, (HC.out _ HST.out.b).2, ⟨HST.out.b⟩⟩
      clear hK K
      try simp only [Act.put, List.setIfInBounds_toArray, List.set_cons_zero, List.set_cons_succ]
      refine wpAnyH_ready (rs := [8]) (by kernel_rfl) (by simp) ?_
      refine (AllReadyH.cons (o := _) (List.getElem?_toArray.trans rfl) (fun K hK => ?_) AllReadyH.nil)
      go_simp
      refine hK.out _ _ ?_ (fun hHeld => ?_)
      · exact ⟨(HC.out _ HST.out.b).1, (HC.out _ HST.out.b).2, ⟨HST.out.b⟩⟩
      clear hK K
      try simp only [Act.put, List.setIfInBounds_toArray, List.set_cons_zero, List.set_cons_succ]
      refine wpAnyH_ready (rs := [9]) (by kernel_rfl) (by simp) ?_
      refine (AllReadyH.cons (o := _) (List.getElem?_toArray.trans rfl) (fun K hK => ?_) AllReadyH.nil)
      go_simp
      refine hK.out _ _ ?_ (fun hHeld => ?_)
      · exact ⟨(HC.out _ HST.out.b).1, (HC.out _ HST.out.b).2, ⟨HST.out.b⟩⟩
      clear hK K
      try simp only [Act.put, List.setIfInBounds_toArray, List.set_cons_zero, List.set_cons_succ]
      refine wpAnyH_done (by kernel_rfl) ?_ _
      go_wp2_with fail
      go_meet
      case rel => exact ⟨_, _, HST⟩
  case rest =>
    obtain ⟨FT, FE, HST⟩ := hcut
    obtain ⟨A7, c7, rfl, hc7, hr7⟩ := HST.out.t.toV
    obtain ⟨A8, c8, rfl, hr8⟩ := HST.out.e.toV
    have Hr78 := Aside0.mk (And.intro hr7 hr8)
    have HBc := Aside0.mk HST.out.b
    have Hbc := Aside0.mk (Ow.blk_below Hb2.out HBc.out)
    rw [Hn.out.1, Hn.out.2.1]
    rw [Hn.out.1, Hn.out.2.1] at HST
    clear hr7 hr8 hc7 g0 g1
    by_cases hR : RightG nT E
    case neg =>
      have RN := new_bad A7 c7 T A8 c8 E wc Hr78.out.1 Hr78.out.2 (by rw [Hn.out.1]; have := Hsm.out; omega) (by rw [Hn.out.2.1]; have := Hsm.out; omega) Hok.out.1 (by rw [Hn.out.1]; exact hR)
      rw [Hn.out.2.1, Hn.out.1] at RN
      have RRt := fun (w' : World) (hb : Below wc.heap.size wc w') => right_any A A2 nT c c2 E w' ((HRE.out.below (bel_trans HB2.out HBc.out)).below hb) (by have := Hsm.out; have := Hn.out.2.1; omega) (by have := Hsm.out; omega)
      rw [Hn.out.2.1] at RRt
      have HRR := Aside0.mk RRt
      have HRN := Aside0.mk RN
      have HnR := Aside0.mk (decide_eq_false hR)
      clear RRt RN hR
      go_wp2_with fail
      refine HRN.out.mono ?_
      rintro e w5 ⟨rfl, r2⟩
      have Hb5 := Aside0.mk (Ow.blk_below Hbc.out r2)
      have g0 : w5.cell? ⟨g, 0, none⟩ = some (.slice A nT c) := blk_cellD Hb5.out 0 _ rfl
      have g1 : w5.cell? ⟨g, 1, none⟩ = some (.slice A2 nE c2) := blk_cellD Hb5.out 1 _ rfl
      have HRR5 := Aside0.mk (HRR.out w5 r2)
      have HB5 := Aside0.mk (bel_trans (bel_trans HB2.out HBc.out) r2)
      clear r2
      go_wp2_with fail
      refine HRR5.out.mono ?_
      rintro e w6 ⟨rfl, r2⟩
      rw [HnR.out]
      have HB6 := Aside0.mk (bel_trans HB5.out r2)
      clear r2
      go_wp2_with fail
      go_ret
      exact ⟨rfl, HB6.out⟩
    have RN := new_far A7 c7 T A8 c8 E wc Hr78.out.1 Hr78.out.2 (by rw [Hn.out.1]; have := Hsm.out; omega) (by rw [Hn.out.2.1]; have := Hsm.out; omega) Hok.out.1 (by rw [Hn.out.1]; exact hR)
    rw [Hn.out.2.1, Hn.out.1] at RN
    have HRN := Aside0.mk RN
    have HRt := Aside0.mk hR
    have HnR := Aside0.mk (decide_eq_true hR)
    clear RN hR
    go_wp2_with fail
    refine HRN.out.mono ?_
    rintro e w5 ⟨p, lab, rfl, r1, r3, r2⟩
    have HGN := Aside0.mk r1
    have Hlab := Aside0.mk r3
    have Hb5 := Aside0.mk (Ow.blk_below Hbc.out r2)
    have g0 : w5.cell? ⟨g, 0, none⟩ = some (.slice A nT c) := blk_cellD Hb5.out 0 _ rfl
    have g1 : w5.cell? ⟨g, 1, none⟩ = some (.slice A2 nE c2) := blk_cellD Hb5.out 1 _ rfl
    have HB5 := Aside0.mk (bel_trans (bel_trans HB2.out HBc.out) r2)
    have HST5 := Aside0.mk (HST.out.below r2)
    have RRt := right_any A A2 nT c c2 E w5 (HRE.out.below HB5.out) (by have := Hsm.out; have := Hn.out.2.1; omega) (by have := Hsm.out; omega)
    rw [Hn.out.2.1] at RRt
    have HRR := Aside0.mk RRt
    clear r1 r2 r3 RRt
    go_wp2_with fail
    refine HRR.out.mono ?_
    rintro e w6 ⟨rfl, r2⟩
    rw [HnR.out]
    have HB6 := Aside0.mk (bel_trans HB5.out r2)
    have Hb6 := Aside0.mk (Ow.blk_below Hb5.out r2)
    have g0 : w6.cell? ⟨g, 0, none⟩ = some (.slice A nT c) := blk_cellD Hb6.out 0 _ rfl
    have g1 : w6.cell? ⟨g, 1, none⟩ = some (.slice A2 nE c2) := blk_cellD Hb6.out 1 _ rfl
    have HST6 := Aside0.mk (HST5.out.below r2)
    have HG6 := Aside0.mk (GX.below HGN.out r2)
    clear r2
    go_upto_region 7 with fail
    have HC6 := Aside0.mk (fun (W' : World) (hb : Below w6.heap.size w6 W') => And.intro (cell_bel hb g0) (cell_bel hb g1))
    have HGd := Aside0.mk (fun (W' : World) (hb : Below w6.heap.size w6 W') => (GA.mk ⟨lab, GX.below HG6.out hb⟩ : GA W' p T E))
    have hlen := fun (W' : World) (hb : Below w6.heap.size w6 W') => len_any p T E W' (HGd.out W' hb)
    rw [Hn.out.1] at hlen
    have HLn := Aside0.mk hlen
    have e1 : typeG T (-1) = ⟨#[]⟩ := by unfold typeG; rw [if_neg (by omega)]; rfl
    have e2 : typeG T (nT : Int) = ⟨#[]⟩ := by unfold typeG; rw [if_neg (by have := Hn.out.1; omega)]; rfl
    have hty := fun (W' : World) (hb : Below w6.heap.size w6 W') => type_any p T E (-1) W' (HGd.out W' hb) (by have := Hsm.out; have := Hn.out.1; omega)
    have hty2 := fun (W' : World) (hb : Below w6.heap.size w6 W') => type_any p T E (nT : Int) W' (HGd.out W' hb) (by have := Hsm.out; have := Hn.out.1; omega)
    rw [e1] at hty
    rw [e2] at hty2
    have HTy := Aside0.mk hty
    have HTy2 := Aside0.mk hty2
    clear hlen hty hty2 e1 e2
    refine wp_region_held_drew (S := (fun W' => W'.cell? ⟨g, 0, none⟩ = some (.slice A nT c) ∧ W'.cell? ⟨g, 1, none⟩ = some (.slice A2 nE c2) ∧ Aside0 (Below w6.heap.size w6 W'))) (by kernel_rfl) ?_ (fun hHeld => ?_)
    · exact ⟨(HC6.out _ (below_drew (Below.refl _ _))).1, (HC6.out _ (below_drew (Below.refl _ _))).2, ⟨(below_drew (Below.refl _ _))⟩⟩
    refine wpAnyH_take (i := 0) (oi := _) (v := ?_) (List.getElem?_toArray.trans rfl) (by kernel_rfl) (by kernel_rfl) (by kernel_rfl) (fun _ _ _ h => h) (Or.inl ⟨by rfl, ?_⟩) (by assumption) ?_
    rotate_left
    · intro w hSw; (try dsimp only at hSw); go_simp <;> with_reducible rfl
    try simp only [Act.put, List.setIfInBounds_toArray, List.set_cons_zero, List.set_cons_succ]
    refine wpAnyH_take (i := 1) (oi := _) (v := ?_) (List.getElem?_toArray.trans rfl) (by kernel_rfl) (by kernel_rfl) (by kernel_rfl) (fun _ _ _ h => h) (Or.inl ⟨by rfl, ?_⟩) (by assumption) ?_
    rotate_left
    · intro w hSw; (try dsimp only at hSw); go_simp <;> with_reducible rfl
    try simp only [Act.put, List.setIfInBounds_toArray, List.set_cons_zero, List.set_cons_succ]
    refine wpAnyH_take (i := 2) (oi := _) (v := ?_) (List.getElem?_toArray.trans rfl) (by kernel_rfl) (by kernel_rfl) (by kernel_rfl) (fun _ _ _ h => h) (Or.inl ⟨by rfl, ?_⟩) (by assumption) ?_
    rotate_left
    · intro w hSw; (try dsimp only at hSw); go_simp <;> with_reducible rfl
    try simp only [Act.put, List.setIfInBounds_toArray, List.set_cons_zero, List.set_cons_succ]
    refine wpAnyH_take (i := 3) (oi := _) (v := ?_) (List.getElem?_toArray.trans rfl) (by kernel_rfl) (by kernel_rfl) (by kernel_rfl) (fun _ _ _ h => h) (Or.inl ⟨by rfl, ?_⟩) (by assumption) ?_
    rotate_left
    · intro w hSw; (try dsimp only at hSw); go_simp <;> with_reducible rfl
    try simp only [Act.put, List.setIfInBounds_toArray, List.set_cons_zero, List.set_cons_succ]
    refine wpAnyH_take (i := 4) (oi := _) (v := ?_) (List.getElem?_toArray.trans rfl) (by kernel_rfl) (by kernel_rfl) (by kernel_rfl) (fun _ _ _ h => h) (Or.inl ⟨by rfl, ?_⟩) (by assumption) ?_
    rotate_left
    · intro w hSw; (try dsimp only at hSw); go_simp <;> with_reducible rfl
    try simp only [Act.put, List.setIfInBounds_toArray, List.set_cons_zero, List.set_cons_succ]
    refine wpAnyH_take (i := 5) (oi := _) (v := ?_) (List.getElem?_toArray.trans rfl) (by kernel_rfl) (by kernel_rfl) (by kernel_rfl) (fun _ _ _ h => h) (Or.inl ⟨by rfl, ?_⟩) (by assumption) ?_
    rotate_left
    · intro w hSw; (try dsimp only at hSw); go_simp <;> with_reducible rfl
    try simp only [Act.put, List.setIfInBounds_toArray, List.set_cons_zero, List.set_cons_succ]
    refine wpAnyH_take (i := 6) (oi := _) (v := ?_) (List.getElem?_toArray.trans rfl) (by kernel_rfl) (by kernel_rfl) (by kernel_rfl) (fun _ _ _ h => h) (Or.inl ⟨by rfl, ?_⟩) (by assumption) ?_
    rotate_left
    · intro w hSw; (try dsimp only at hSw); go_simp <;> with_reducible rfl
    try simp only [Act.put, List.setIfInBounds_toArray, List.set_cons_zero, List.set_cons_succ]
    refine wpAnyH_take (i := 7) (oi := _) (v := ?_) (List.getElem?_toArray.trans rfl) (by kernel_rfl) (by kernel_rfl) (by kernel_rfl) (fun _ _ _ h => h) (Or.inl ⟨by rfl, ?_⟩) (by assumption) ?_
    rotate_left
    · intro w hSw; (try dsimp only at hSw); go_simp <;> with_reducible rfl
    try simp only [Act.put, List.setIfInBounds_toArray, List.set_cons_zero, List.set_cons_succ]
    refine wpAnyH_take (i := 9) (oi := _) (v := ?_) (List.getElem?_toArray.trans rfl) (by kernel_rfl) (by kernel_rfl) (by kernel_rfl) (fun _ _ _ h => h) (Or.inl ⟨by rfl, ?_⟩) (by assumption) ?_
    rotate_left
    · intro w hSw; (try dsimp only at hSw); go_simp <;> with_reducible rfl
    try simp only [Act.put, List.setIfInBounds_toArray, List.set_cons_zero, List.set_cons_succ]
    refine wpAnyH_take (i := 10) (oi := _) (v := ?_) (List.getElem?_toArray.trans rfl) (by kernel_rfl) (by kernel_rfl) (by kernel_rfl) (fun _ _ _ h => h) (Or.inl ⟨by rfl, ?_⟩) (by assumption) ?_
    rotate_left
    · intro w hSw; (try dsimp only at hSw); go_simp <;> with_reducible rfl
    try simp only [Act.put, List.setIfInBounds_toArray, List.set_cons_zero, List.set_cons_succ]
    refine wpAnyH_take (i := 11) (oi := _) (v := ?_) (List.getElem?_toArray.trans rfl) (by kernel_rfl) (by kernel_rfl) (by kernel_rfl) (fun _ _ _ h => h) (Or.inl ⟨by rfl, ?_⟩) (by assumption) ?_
    rotate_left
    · intro w hSw; (try dsimp only at hSw); go_simp <;> with_reducible rfl
    try simp only [Act.put, List.setIfInBounds_toArray, List.set_cons_zero, List.set_cons_succ]
    refine wpAnyH_ready (rs := [8]) (by kernel_rfl) (by simp) ?_
    refine (AllReadyH.cons (o := _) (List.getElem?_toArray.trans rfl) (fun K hK => ?_) AllReadyH.nil)
    go_simp
    (with_reducible refine (HLn.out _ (below_drew (Below.refl _ _))).mono ?_)
    rintro e _ ⟨rfl, rfl⟩
    refine hK.out _ _ ?_ (fun hHeld => ?_)
    · exact ⟨(HC6.out _ (below_drew (Below.refl _ _))).1, (HC6.out _ (below_drew (Below.refl _ _))).2, ⟨(below_drew (Below.refl _ _))⟩⟩
    clear hK K
    try simp only [Act.put, List.setIfInBounds_toArray, List.set_cons_zero, List.set_cons_succ]
    refine wpAnyH_take (i := 12) (oi := _) (v := ?_) (List.getElem?_toArray.trans rfl) (by kernel_rfl) (by kernel_rfl) (by kernel_rfl) (fun _ _ _ h => h) (Or.inl ⟨by rfl, ?_⟩) (by assumption) ?_
    rotate_left
    · intro w hSw; (try dsimp only at hSw); go_simp <;> with_reducible rfl
    try simp only [Act.put, List.setIfInBounds_toArray, List.set_cons_zero, List.set_cons_succ]
    refine wpAnyH_take (i := 13) (oi := _) (v := ?_) (List.getElem?_toArray.trans rfl) (by kernel_rfl) (by kernel_rfl) (by kernel_rfl) (fun _ _ _ h => h) (Or.inl ⟨by rfl, ?_⟩) (by assumption) ?_
    rotate_left
    · intro w hSw; (try dsimp only at hSw); go_simp <;> with_reducible rfl
    try simp only [Act.put, List.setIfInBounds_toArray, List.set_cons_zero, List.set_cons_succ]
    refine wpAnyH_take (i := 14) (oi := _) (v := ?_) (List.getElem?_toArray.trans rfl) (by kernel_rfl) (by kernel_rfl) (by kernel_rfl) (fun _ _ _ h => h) (Or.inl ⟨by rfl, ?_⟩) (by assumption) ?_
    rotate_left
    · intro w hSw; (try dsimp only at hSw); go_simp <;> with_reducible rfl
    try simp only [Act.put, List.setIfInBounds_toArray, List.set_cons_zero, List.set_cons_succ]
    refine wpAnyH_take (i := 15) (oi := _) (v := ?_) (List.getElem?_toArray.trans rfl) (by kernel_rfl) (by kernel_rfl) (by kernel_rfl) (fun _ _ _ h => h) (Or.inl ⟨by rfl, ?_⟩) (by assumption) ?_
    rotate_left
    · intro w hSw; (try dsimp only at hSw); go_simp <;> with_reducible rfl
    try simp only [Act.put, List.setIfInBounds_toArray, List.set_cons_zero, List.set_cons_succ]
    refine wpAnyH_ready (rs := [16]) (by kernel_rfl) (by simp) ?_
    refine (AllReadyH.cons (o := _) (List.getElem?_toArray.trans rfl) (fun K hK => ?_) AllReadyH.nil)
    go_simp
    (with_reducible refine (HTy.out _ (below_drew (Below.refl _ _))).mono ?_)
    rintro e _ ⟨rfl, rfl⟩
    refine hK.out _ _ ?_ (fun hHeld => ?_)
    · exact ⟨(HC6.out _ (below_drew (Below.refl _ _))).1, (HC6.out _ (below_drew (Below.refl _ _))).2, ⟨(below_drew (Below.refl _ _))⟩⟩
    clear hK K
    try simp only [Act.put, List.setIfInBounds_toArray, List.set_cons_zero, List.set_cons_succ]
    refine wpAnyH_take (i := 17) (oi := _) (v := ?_) (List.getElem?_toArray.trans rfl) (by kernel_rfl) (by kernel_rfl) (by kernel_rfl) (fun _ _ _ h => h) (Or.inl ⟨by rfl, ?_⟩) (by assumption) ?_
    rotate_left
    · intro w hSw; (try dsimp only at hSw); go_simp <;> with_reducible rfl
    try simp only [Act.put, List.setIfInBounds_toArray, List.set_cons_zero, List.set_cons_succ]
    refine wpAnyH_take (i := 18) (oi := _) (v := ?_) (List.getElem?_toArray.trans rfl) (by kernel_rfl) (by kernel_rfl) (by kernel_rfl) (fun _ _ _ h => h) (Or.inl ⟨by rfl, ?_⟩) (by assumption) ?_
    rotate_left
    · intro w hSw; (try dsimp only at hSw); go_simp <;> with_reducible rfl
    try simp only [Act.put, List.setIfInBounds_toArray, List.set_cons_zero, List.set_cons_succ]
    refine wpAnyH_take (i := 19) (oi := _) (v := ?_) (List.getElem?_toArray.trans rfl) (by kernel_rfl) (by kernel_rfl) (by kernel_rfl) (fun _ _ _ h => h) (Or.inl ⟨by rfl, ?_⟩) (by assumption) ?_
    rotate_left
    · intro w hSw; (try dsimp only at hSw); go_simp <;> with_reducible rfl
    try simp only [Act.put, List.setIfInBounds_toArray, List.set_cons_zero, List.set_cons_succ]
    refine wpAnyH_take (i := 20) (oi := _) (v := ?_) (List.getElem?_toArray.trans rfl) (by kernel_rfl) (by kernel_rfl) (by kernel_rfl) (fun _ _ _ h => h) (Or.inl ⟨by rfl, ?_⟩) (by assumption) ?_
    rotate_left
    · intro w hSw; (try dsimp only at hSw); go_simp <;> with_reducible rfl
    try simp only [Act.put, List.setIfInBounds_toArray, List.set_cons_zero, List.set_cons_succ]
    refine wpAnyH_take (i := 21) (oi := _) (v := ?_) (List.getElem?_toArray.trans rfl) (by kernel_rfl) (by kernel_rfl) (by kernel_rfl) (fun _ _ _ h => h) (Or.inl ⟨by rfl, ?_⟩) (by assumption) ?_
    rotate_left
    · intro w hSw; (try dsimp only at hSw); go_simp <;> with_reducible rfl
    try simp only [Act.put, List.setIfInBounds_toArray, List.set_cons_zero, List.set_cons_succ]
    refine wpAnyH_take (i := 22) (oi := _) (v := ?_) (List.getElem?_toArray.trans rfl) (by kernel_rfl) (by kernel_rfl) (by kernel_rfl) (fun _ _ _ h => h) (Or.inl ⟨by rfl, ?_⟩) (by assumption) ?_
    rotate_left
    · intro w hSw; (try dsimp only at hSw); go_simp <;> with_reducible rfl
    try simp only [Act.put, List.setIfInBounds_toArray, List.set_cons_zero, List.set_cons_succ]
    refine wpAnyH_take (i := 23) (oi := _) (v := ?_) (List.getElem?_toArray.trans rfl) (by kernel_rfl) (by kernel_rfl) (by kernel_rfl) (fun _ _ _ h => h) (Or.inl ⟨by rfl, ?_⟩) (by assumption) ?_
    rotate_left
    · intro w hSw; (try dsimp only at hSw); go_simp <;> with_reducible rfl
    try simp only [Act.put, List.setIfInBounds_toArray, List.set_cons_zero, List.set_cons_succ]
    refine wpAnyH_ready (rs := [24]) (by kernel_rfl) (by simp) ?_
    refine (AllReadyH.cons (o := _) (List.getElem?_toArray.trans rfl) (fun K hK => ?_) AllReadyH.nil)
    go_simp
    (with_reducible refine (HTy2.out _ (below_drew (Below.refl _ _))).mono ?_)
    rintro e _ ⟨rfl, rfl⟩
    refine hK.out _ _ ?_ (fun hHeld => ?_)
    · exact ⟨(HC6.out _ (below_drew (Below.refl _ _))).1, (HC6.out _ (below_drew (Below.refl _ _))).2, ⟨(below_drew (Below.refl _ _))⟩⟩
    clear hK K
    try simp only [Act.put, List.setIfInBounds_toArray, List.set_cons_zero, List.set_cons_succ]
    refine wpAnyH_take (i := 25) (oi := _) (v := ?_) (List.getElem?_toArray.trans rfl) (by kernel_rfl) (by kernel_rfl) (by kernel_rfl) (fun _ _ _ h => h) (Or.inl ⟨by rfl, ?_⟩) (by assumption) ?_
    rotate_left
    · intro w hSw; (try dsimp only at hSw); go_simp <;> with_reducible rfl
    try simp only [Act.put, List.setIfInBounds_toArray, List.set_cons_zero, List.set_cons_succ]
    refine wpAnyH_take (i := 26) (oi := _) (v := ?_) (List.getElem?_toArray.trans rfl) (by kernel_rfl) (by kernel_rfl) (by kernel_rfl) (fun _ _ _ h => h) (Or.inl ⟨by rfl, ?_⟩) (by assumption) ?_
    rotate_left
    · intro w hSw; (try dsimp only at hSw); go_simp <;> with_reducible rfl
    try simp only [Act.put, List.setIfInBounds_toArray, List.set_cons_zero, List.set_cons_succ]
    refine wpAnyH_done (by kernel_rfl) ?_ _
    go_wp2_with fail
    have HSTx := Aside0.mk (HST6.out.below (below_drew (Below.refl w6.heap.size w6)))
    have HBx := Aside0.mk (below_drew HB6.out)
    have Hbx := Aside0.mk (Ow.blk_below Hb6.out (below_drew (Below.refl w6.heap.size w6)))
    have HGx := Aside0.mk (GX.below HG6.out (below_drew (Below.refl w6.heap.size w6)))
    have Hfar := Aside0.mk (And.intro (show ∀ k, lab k ≠ none → ¬ FT k from fun k hk hf => by have h1 := Hlab.out k hk; have h2 := (HST.out.bt k hf).2; omega) (fun k (hf : FT k) => Nat.le_trans HB2.out.size (HST.out.bt k hf).1))
    clear g0 g1
    generalize w6.drew = wx at *
    go_loopw [11] (fun I wr => ∃ (i : Nat) (L : List ByteArray), I = .int .i64 (i : Int) ∧ i ≤ nT ∧ L.length = nT ∧ Aside0 (OwS wr FT (.slice A7 nT c7) L) ∧ Aside0 (Chg FT wx wr)) (fun I _ => nT - (intOf I).toNat)
    case atStart => exact ⟨0, T, rfl, Nat.zero_le _, Hn.out.1, ⟨HSTx.out.t⟩, ⟨Chg.refl _ _⟩⟩
    case round =>
      obtain ⟨i, Ls, rfl, hi, hLs, HO, HCh⟩ := hrel
      by_cases hin : i < nT
      · have hnb : decide ((i : Int) < (nT : Int)) = true := decide_eq_true (by omega)
        have hnc : decide (i < nT) = true := decide_eq_true hin
        obtain ⟨g7, rfl, -, hF7, hcl⟩ := HO.out.at_ (by omega)
        obtain ⟨y7, e7⟩ := hcl i (by omega)
        have hfr := HO.out.free i
        have i0 : 0 ≤ (i : Int) := by omega
        have i1 : (i : Int) < (nT : Int) := by omega
        have i2 : (i : Int) ≤ 1000000 := by have := Hsm.out; omega
        have ea : ((⟨g7, 0, none⟩ : Addr).add i) = ⟨g7, i, none⟩ := add_zero_off g7 i
        have hOO := HO.out
        rw [← hLs] at hOO
        have HO2 := Aside0.mk (hOO.put i ⟨#[63]⟩)
        have HC2 := Aside0.mk (HCh.out.then_ (Chg.setCell wr (p := ⟨g7, i, none⟩) (F := FT) hF7 (.string ⟨#[63]⟩)) (fun k h => .inl h))
        have Hin := Aside0.mk (And.intro hin hLs)
        clear hin hi hLs hcl hOO hF7
        replace i0 := eq_true i0
        replace i1 := eq_true i1
        go_wp2_with fail
        go_roundw
        case rel => exact ⟨i + 1, Ls.set i ⟨#[63]⟩, by go_num, Hin.out.1, by rw [List.length_set]; exact Hin.out.2, ⟨by have := HO2.out; rw [Hin.out.2] at this; exact this⟩, HC2⟩
        case measure => have := Hin.out.1; simp [intOf]; omega
      · have hnb : decide ((i : Int) < (nT : Int)) = false := decide_eq_false (by omega)
        have hnc : decide (i < nT) = false := decide_eq_false hin
        obtain rfl : i = nT := by omega
        have HBz := Aside0.mk (chg_own HBx.out Hfar.out.2 HCh.out)
        have Hbz := Aside0.mk (HCh.out.blk Hbx.out (fun hf => by have h1 := Hfar.out.2 g hf; have h2 := (HST.out.bt g hf).1; have h3 := blk_lt Hb2.out; omega))
        have HGz := Aside0.mk (GA.mk ⟨lab, GX.chg HGx.out HCh.out Hfar.out.1⟩ : GA wr p T E)
        have hsame := fun (W' : World) (hb : Below wr.heap.size wr W') (v : Value) (l : List Int) (hv : RdV W' v l) (hlo : ∀ x ∈ l, ok64 x) (hll : l.length ≤ 20) => same_law p A A2 c c2 T E v l f W' (HGz.out.below hb) ((HT.out.below HBz.out).below hb) ((HRT.out.below HBz.out).below hb) ((HRE.out.below HBz.out).below hb) hv (by rw [Hn.out.1]; exact HRt.out) Hok.out.1 Hok.out.2.2.2 hlo Hok.out.2.2.1 (by have := Hsm.out; have := Hn.out.1; have := Hn.out.2.1; exact ⟨by omega, by omega, hll⟩)
        rw [Hn.out.1, Hn.out.2.1] at hsame
        have HS := Aside0.mk hsame
        clear hin hi hLs hsame HCh HO
        go_wp2_with fail
        go_loopw [12] (fun I wz => ∃ k : Nat, I = .int .i64 (k : Int) ∧ k ≤ i ∧ Aside0 (Below wr.heap.size wr wz)) (fun I _ => i - (intOf I).toNat)
        case atStart => exact ⟨0, rfl, Nat.zero_le _, ⟨Below.refl _ _⟩⟩
        case round =>
          obtain ⟨k, rfl, hk, HBk⟩ := hrel
          have Hbk := Aside0.mk (Ow.blk_below Hbz.out HBk.out)
          have g0 : wr.cell? ⟨g, 0, none⟩ = some (.slice A i c) := blk_cellD Hbk.out 0 _ rfl
          have g1 : wr.cell? ⟨g, 1, none⟩ = some (.slice A2 nE c2) := blk_cellD Hbk.out 1 _ rfl
          by_cases hkn : k < i
          · have hnb : decide ((k : Int) < (i : Int)) = true := decide_eq_true (by omega)
            have hnc : decide (k < i) = true := decide_eq_true hkn
            have hkl : k < T.length := by rw [Hn.out.1]; exact hkn
            obtain ⟨adT, rfl, et⟩ := ((HRT.out.below HBz.out).below HBk.out).at_ k hkl
            have k0 : 0 ≤ (k : Int) := by omega
            have k1 : (k : Int) < (i : Int) := by omega
            have k2 : (k : Int) ≤ 1000000 := by have := Hsm.out; omega
            have ety : typeG T (k : Int) = T.getD k ByteArray.empty := by unfold typeG; rw [if_pos (by omega)]; simp
            obtain ⟨y, hy⟩ : ∃ y, T.getD k ByteArray.empty = y := ⟨_, rfl⟩
            have hty := fun (W' : World) (hb : Below wr.heap.size wr W') => type_any p T E (k : Int) W' (HGz.out.below (bel_trans HBk.out hb)) (by have := Hsm.out; have := Hn.out.1; omega)
            rw [ety, hy] at hty
            rw [hy] at et
            have HTy := Aside0.mk hty
            have Hk := Aside0.mk hkn
            have HSk := Aside0.mk (fun (W' : World) (b : Nat) (hb : Below wr.heap.size wr W') (hg : W'.heap[b]? = some (.cells #[.int .i64 (k : Int)] 3 (0, 0))) => HS.out W' (bel_trans HBk.out hb) (.slice (some ⟨b, 0, none⟩) 1 1) [(k : Int)] (rdV_lit (l := [(k : Int)]) hg rfl (by simp)) (fun x hx => by rw [List.mem_singleton] at hx; subst hx; exact ok64_of (by omega) (by omega)) (by simp))
            have HC := Aside0.mk (fun (W' : World) (hb : Below wr.heap.size wr W') => And.intro (cell_bel hb g0) (And.intro (cell_bel hb g1) (cell_bel hb et)))
            clear hkn hk hkl ety hy hty
            replace k0 := eq_true k0
            replace k1 := eq_true k1
            go_upto_region 16 with fail
            refine wp_region_held_drew (S := (fun W' => W'.cell? ⟨g, 0, none⟩ = some (.slice (some adT) i c) ∧ W'.cell? ⟨g, 1, none⟩ = some (.slice A2 nE c2) ∧ W'.cell? (adT.add k) = some (.string y) ∧ Aside0 (Below wr.heap.size wr W'))) (by kernel_rfl) ?_ (fun hHeld => ?_)
            · exact ⟨(HC.out _ (below_drew (Below.refl _ _))).1, (HC.out _ (below_drew (Below.refl _ _))).2.1, (HC.out _ (below_drew (Below.refl _ _))).2.2, ⟨(below_drew (Below.refl _ _))⟩⟩
            refine wpAnyH_take (i := 0) (oi := _) (v := ?_) (List.getElem?_toArray.trans rfl) (by kernel_rfl) (by kernel_rfl) (by kernel_rfl) (fun _ _ _ h => h) (Or.inl ⟨by rfl, ?_⟩) (by assumption) ?_
            rotate_left
            · intro w hSw; (try dsimp only at hSw); go_simp <;> with_reducible rfl
            try simp only [Act.put, List.setIfInBounds_toArray, List.set_cons_zero, List.set_cons_succ]
            refine wpAnyH_take (i := 1) (oi := _) (v := ?_) (List.getElem?_toArray.trans rfl) (by kernel_rfl) (by kernel_rfl) (by kernel_rfl) (fun _ _ _ h => h) (Or.inl ⟨by rfl, ?_⟩) (by assumption) ?_
            rotate_left
            · intro w hSw; (try dsimp only at hSw); go_simp <;> with_reducible rfl
            try simp only [Act.put, List.setIfInBounds_toArray, List.set_cons_zero, List.set_cons_succ]
            refine wpAnyH_take (i := 3) (oi := _) (v := ?_) (List.getElem?_toArray.trans rfl) (by kernel_rfl) (by kernel_rfl) (by kernel_rfl) (fun _ _ _ h => h) (Or.inl ⟨by rfl, ?_⟩) (by assumption) ?_
            rotate_left
            · intro w hSw; (try dsimp only at hSw); go_simp <;> with_reducible rfl
            try simp only [Act.put, List.setIfInBounds_toArray, List.set_cons_zero, List.set_cons_succ]
            refine wpAnyH_take (i := 4) (oi := _) (v := ?_) (List.getElem?_toArray.trans rfl) (by kernel_rfl) (by kernel_rfl) (by kernel_rfl) (fun _ _ _ h => h) (Or.inl ⟨by rfl, ?_⟩) (by assumption) ?_
            rotate_left
            · intro w hSw; (try dsimp only at hSw); go_simp <;> with_reducible rfl
            try simp only [Act.put, List.setIfInBounds_toArray, List.set_cons_zero, List.set_cons_succ]
            refine wpAnyH_take (i := 5) (oi := _) (v := ?_) (List.getElem?_toArray.trans rfl) (by kernel_rfl) (by kernel_rfl) (by kernel_rfl) (fun _ _ _ h => h) (Or.inl ⟨by rfl, ?_⟩) (by assumption) ?_
            rotate_left
            · intro w hSw; (try dsimp only at hSw); go_simp <;> with_reducible rfl
            try simp only [Act.put, List.setIfInBounds_toArray, List.set_cons_zero, List.set_cons_succ]
            refine wpAnyH_take (i := 6) (oi := _) (v := ?_) (List.getElem?_toArray.trans rfl) (by kernel_rfl) (by kernel_rfl) (by kernel_rfl) (fun _ _ _ h => h) (Or.inl ⟨by rfl, ?_⟩) (by assumption) ?_
            rotate_left
            · intro w hSw; (try dsimp only at hSw); go_simp <;> with_reducible rfl
            try simp only [Act.put, List.setIfInBounds_toArray, List.set_cons_zero, List.set_cons_succ]
            refine wpAnyH_take (i := 7) (oi := _) (v := ?_) (List.getElem?_toArray.trans rfl) (by kernel_rfl) (by kernel_rfl) (by kernel_rfl) (fun _ _ _ h => h) (Or.inl ⟨by rfl, ?_⟩) (by assumption) ?_
            rotate_left
            · intro w hSw; (try dsimp only at hSw); go_simp <;> with_reducible rfl
            try simp only [Act.put, List.setIfInBounds_toArray, List.set_cons_zero, List.set_cons_succ]
            refine wpAnyH_ready (rs := [2]) (by kernel_rfl) (by simp) ?_
            refine (AllReadyH.cons (o := _) (List.getElem?_toArray.trans rfl) (fun K hK => ?_) AllReadyH.nil)
            go_simp
            (with_reducible refine (HTy.out _ (below_drew (Below.refl _ _))).mono ?_)
            rintro e _ ⟨rfl, rfl⟩
            refine hK.out _ _ ?_ (fun hHeld => ?_)
            · exact ⟨(HC.out _ (below_drew (Below.refl _ _))).1, (HC.out _ (below_drew (Below.refl _ _))).2.1, (HC.out _ (below_drew (Below.refl _ _))).2.2, ⟨(below_drew (Below.refl _ _))⟩⟩
            clear hK K
            try simp only [Act.put, List.setIfInBounds_toArray, List.set_cons_zero, List.set_cons_succ]
            refine wpAnyH_take (i := 8) (oi := _) (v := ?_) (List.getElem?_toArray.trans rfl) (by kernel_rfl) (by kernel_rfl) (by kernel_rfl) (fun _ _ _ h => h) (Or.inl ⟨by rfl, ?_⟩) (by assumption) ?_
            rotate_left
            · intro w hSw; (try dsimp only at hSw); go_simp <;> with_reducible rfl
            try simp only [Act.put, List.setIfInBounds_toArray, List.set_cons_zero, List.set_cons_succ]
            refine wpAnyH_take (i := 9) (oi := _) (v := ?_) (List.getElem?_toArray.trans rfl) (by kernel_rfl) (by kernel_rfl) (by kernel_rfl) (fun _ _ _ h => h) (Or.inl ⟨by rfl, ?_⟩) (by assumption) ?_
            rotate_left
            · intro w hSw; (try dsimp only at hSw); go_simp <;> with_reducible rfl
            try simp only [Act.put, List.setIfInBounds_toArray, List.set_cons_zero, List.set_cons_succ]
            refine wpAnyH_take (i := 10) (oi := _) (v := ?_) (List.getElem?_toArray.trans rfl) (by kernel_rfl) (by kernel_rfl) (by kernel_rfl) (fun _ _ _ h => h) (Or.inl ⟨by rfl, ?_⟩) (by assumption) ?_
            rotate_left
            · intro w hSw; (try dsimp only at hSw); go_simp <;> with_reducible rfl
            try simp only [Act.put, List.setIfInBounds_toArray, List.set_cons_zero, List.set_cons_succ]
            refine wpAnyH_take (i := 11) (oi := _) (v := ?_) (List.getElem?_toArray.trans rfl) (by kernel_rfl) (by kernel_rfl) (by kernel_rfl) (fun _ _ _ h => h) (Or.inl ⟨by rfl, ?_⟩) (by assumption) ?_
            rotate_left
            · intro w hSw; (try dsimp only at hSw); go_simp <;> with_reducible rfl
            try simp only [Act.put, List.setIfInBounds_toArray, List.set_cons_zero, List.set_cons_succ]
            refine wpAnyH_take (i := 12) (oi := _) (v := ?_) (List.getElem?_toArray.trans rfl) (by kernel_rfl) (by kernel_rfl) (by kernel_rfl) (fun _ _ _ h => h) (Or.inl ⟨by rfl, ?_⟩) (by assumption) ?_
            rotate_left
            · intro w hSw; (try dsimp only at hSw); go_simp <;> with_reducible rfl
            try simp only [Act.put, List.setIfInBounds_toArray, List.set_cons_zero, List.set_cons_succ]
            refine wpAnyH_take (i := 14) (oi := _) (v := ?_) (List.getElem?_toArray.trans rfl) (by kernel_rfl) (by kernel_rfl) (by kernel_rfl) (fun _ _ _ h => h) (Or.inl ⟨by rfl, ?_⟩) (by assumption) ?_
            rotate_left
            · intro w hSw; (try dsimp only at hSw); go_simp <;> with_reducible rfl
            try simp only [Act.put, List.setIfInBounds_toArray, List.set_cons_zero, List.set_cons_succ]
            refine wpAnyH_ready (rs := [13]) (by kernel_rfl) (by simp) ?_
            refine (AllReadyH.cons (o := _) (List.getElem?_toArray.trans rfl) (fun K hK => ?_) AllReadyH.nil)
            go_simp
            refine hK.out _ _ ?_ (fun hHeld => ?_)
            · exact ⟨(HC.out _ (below_drew (below_alloc (Below.refl _ _) _))).1, (HC.out _ (below_drew (below_alloc (Below.refl _ _) _))).2.1, (HC.out _ (below_drew (below_alloc (Below.refl _ _) _))).2.2, ⟨(below_drew (below_alloc (Below.refl _ _) _))⟩⟩
            clear hK K
            try simp only [Act.put, List.setIfInBounds_toArray, List.set_cons_zero, List.set_cons_succ]
            refine wpAnyH_ready (rs := [15]) (by kernel_rfl) (by simp) ?_
            refine (AllReadyH.cons (o := _) (List.getElem?_toArray.trans rfl) (fun K hK => ?_) AllReadyH.nil)
            go_simp
            (with_reducible refine (HSk.out _ wr.heap.size (below_drew (below_alloc (Below.refl _ _) _)) (Ow.blk_below (heap_alloc_new wr _) (below_drew (Below.refl _ _)))).mono ?_)
            rintro e w8 ⟨rfl, r2⟩
            have HB8 := Aside0.mk (bel_trans (below_drew (below_alloc (Below.refl _ _) _)) r2)
            clear r2
            refine hK.out _ _ ?_ (fun hHeld => ?_)
            · exact ⟨(HC.out _ HB8.out).1, (HC.out _ HB8.out).2.1, (HC.out _ HB8.out).2.2, ⟨HB8.out⟩⟩
            clear hK K
            try simp only [Act.put, List.setIfInBounds_toArray, List.set_cons_zero, List.set_cons_succ]
            refine wpAnyH_take (i := 16) (oi := _) (v := ?_) (List.getElem?_toArray.trans rfl) (by kernel_rfl) (by kernel_rfl) (by kernel_rfl) (fun _ _ _ h => h) (Or.inl ⟨by rfl, ?_⟩) (by assumption) ?_
            rotate_left
            · intro w hSw; (try dsimp only at hSw); go_simp <;> with_reducible rfl
            try simp only [Act.put, List.setIfInBounds_toArray, List.set_cons_zero, List.set_cons_succ]
            refine wpAnyH_take (i := 17) (oi := _) (v := ?_) (List.getElem?_toArray.trans rfl) (by kernel_rfl) (by kernel_rfl) (by kernel_rfl) (fun _ _ _ h => h) (Or.inl ⟨by rfl, ?_⟩) (by assumption) ?_
            rotate_left
            · intro w hSw; (try dsimp only at hSw); go_simp <;> with_reducible rfl
            try simp only [Act.put, List.setIfInBounds_toArray, List.set_cons_zero, List.set_cons_succ]
            refine wpAnyH_done (by kernel_rfl) ?_ _
            go_wp2_with fail
            go_roundw
            case rel => exact ⟨k + 1, by go_num, Hk.out, ⟨bel_trans HBk.out HB8.out⟩⟩
            case measure => have := Hk.out; simp [intOf]; omega
          · have hnb : decide ((k : Int) < (i : Int)) = false := decide_eq_false (by omega)
            have hnc : decide (k < i) = false := decide_eq_false hkn
            have HU8 := Aside0.mk ((HU.out.below HBz.out).below HBk.out)
            rw [Hn.out.2.2] at HU8
            have HS1 := Aside0.mk (HS.out wr HBk.out (.slice A3 n3 c3) os HU8.out Hok.out.2.1 (by have := H3.out; have := Hn.out.2.2; omega))
            clear hkn hk
            go_wp2_with fail
            refine HS1.out.mono ?_
            rintro e w8 ⟨rfl, r2⟩
            have HB8 := Aside0.mk (bel_trans HBk.out r2)
            have Hb8 := Aside0.mk (Ow.blk_below Hbk.out r2)
            have g0 : w8.cell? ⟨g, 0, none⟩ = some (.slice A i c) := blk_cellD Hb8.out 0 _ rfl
            have g1 : w8.cell? ⟨g, 1, none⟩ = some (.slice A2 nE c2) := blk_cellD Hb8.out 1 _ rfl
            have HS2 := Aside0.mk (HS.out w8 HB8.out (.slice none 0 0) [] (OwI.nil w8 0).toV (fun x h => by cases h) (by simp))
            clear r2 HS1
            go_wp2_with fail
            refine HS2.out.mono ?_
            rintro e w9 ⟨rfl, r2⟩
            have HB9 := Aside0.mk (bel_trans HBz.out (bel_trans HB8.out r2))
            clear r2
            go_wp2_with fail
            go_ret
            exact ⟨rfl, HB9.out⟩
end Go.Proofs.YtfgonclaiphoeaaGreatDoor.Tx
end
