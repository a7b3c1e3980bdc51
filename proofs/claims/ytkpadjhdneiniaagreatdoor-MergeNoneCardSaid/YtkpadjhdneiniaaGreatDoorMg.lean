/- winnowerlaw25: awake. -/
import Derived.Test.YtkpadjhdneiniaaGreatDoorMe
namespace Go.Proofs.YtkpadjhdneiniaaGreatDoor.Am
set_option linter.unusedVariables false
open Go.RowKit Go.Proofs.YtkpadjhdneiniaaGreatDoorW.PrintWords Go.Proofs.YtkpadjhdneiniaaGreatDoorW.PrintLast Go.Proofs.YtkpadjhdneiniaaGreatDoorW.PrintMore Go.Maps
open Go.Proofs.YtkpadjhdneiniaaGreatDoor.Base Go.Proofs.YtkpadjhdneiniaaGreatDoor.Map Go.Proofs.YtkpadjhdneiniaaGreatDoor.Sl Go.Proofs.YtkpadjhdneiniaaGreatDoor.Ow Go.Proofs.YtkpadjhdneiniaaGreatDoor.Se Go.Proofs.YtkpadjhdneiniaaGreatDoor.Gr Go.Proofs.YtkpadjhdneiniaaGreatDoor.Rf Go.Proofs.YtkpadjhdneiniaaGreatDoor.Tx Go.Proofs.YtkpadjhdneiniaaGreatDoor.Au



open Go.Proofs.YtkpadjhdneiniaaGreatDoor.Eb
set_option maxHeartbeats 8000000 in
set_option maxRecDepth 100000 in
theorem map_nil (most : Int) (w : World) : Calls Tryz.prog 45 #[.pointer none, .int .i64 most] w fun e w' => e = .returned (.tuple #[.slice none 0 0, .int .i64 2]) ∧ w = w' := by
  go_enter Tryz.func45, Tryz.ntmps45
  go_wp2_with fail
  go_ret2
  exact ⟨rfl, rfl⟩
theorem may_bools (T : List ByteArray) (E : List GE) (most : Int) : ∃ M : Nat → Bool, ∀ i, M i = true ↔ MayG T E most (i : Int) :=
  ⟨fun i => @decide (MayG T E most (i : Int)) (Classical.propDecidable _), fun i => by simp⟩
/-! without edges -/
theorem bare_same {T : List ByteArray} {k o : Int} (h : typL T [k] = typL T [o]) : ∀ v, ¬ Df T [] [k] [o] v := fun v hd => by
  cases v with
  | nil => exact hd (by
      show tyG T [k] = tyG T [o]
      unfold tyG; rw [h])
  | cons f t => exact hd (by rw [ledS_bare, ledS_bare])
theorem bare_fields (s : List Int) : fieldsG [] s = [] := by
  refine List.eq_nil_iff_forall_not_mem.2 fun x hx => ?_
  obtain ⟨a, b, h, _⟩ := mem_fieldsG.1 hx
  cases h
theorem bare_st (o : Int) : ∀ i, stT [] o i = [[o]]
  | 0 => rfl
  | i + 1 => by
    rcases Nat.lt_or_ge i (stT [] o i).length with h | h
    · have hi : (stT [] o i)[i]? = some [o] := by
        rw [bare_st o i] at h ⊢
        obtain rfl : i = 0 := by simpa using h
        rfl
      rw [stT_some hi, bare_fields, bare_st o i]; rfl
    · rw [stT_none h, bare_st o i]
theorem bare_states (n : Nat) (o : Int) : statesG [] n o = [[o]] := bare_st o _
theorem one_type {T : List ByteArray} {o : Int} (h0 : 0 ≤ o) (h1 : o < T.length) {S : List ByteArray} (h : TypS T [o] S) : S.length = 1 := by
  have h2 := h.len
  have h3 : typeG T o ∈ S := (h.mem _).2 (by rw [typL_one, if_pos ⟨h0, h1⟩]; simp)
  have h4 := List.length_pos_of_mem h3
  simp at h2
  omega
theorem bare_may {T : List ByteArray} {most o : Int} (h0 : 0 ≤ o) (h1 : o < T.length) (hm : 1 ≤ most) : MayG T [] most o := by
  refine ⟨⟨h0, h1⟩, by rw [bare_states]; simpa using hm, ?_⟩
  rw [bare_states]
  intro s hs S hS
  rw [List.mem_singleton] at hs
  subst hs
  exact one_type h0 h1 hS
/-! the layer's example -/
def exT2 : List ByteArray := [⟨#[65]⟩, ⟨#[65]⟩]
theorem ex2_light : LightG exT2.length [] := ⟨⟨by decide, by decide⟩, by intro e he; (cases he), by decide⟩
theorem ex2_map {M : Nat → Bool} {S : Nat → Nat → Bool} (hM : ∀ i, M i = true ↔ MayG exT2 [] 5 (i : Int)) (hS : ∀ j i, S j i = true ↔ ∀ v, ¬ Df exT2 [] [(j : Int)] [(i : Int)] v) : mapL M S 2 = [0, 0] := by
  have m0 : M 0 = true := (hM 0).2 (bare_may (by decide) (by decide) (by decide))
  have m1 : M 1 = true := (hM 1).2 (bare_may (by decide) (by decide) (by decide))
  have s0 : S 0 0 = true := (same_eqv hS).refl 0
  have s1 : S 0 1 = true := (hS 0 1).2 (bare_same (by rw [typL_one, typL_one]; rfl))
  have a : mapG M S 0 = 0 := by
    unfold mapG
    rw [if_pos m0]
    exact firstG_at (k := 0) (fun j hj => by omega) (by simp [m0, s0]) (by omega)
  have b : mapG M S 1 = 0 := by
    unfold mapG
    rw [if_pos m1]
    exact firstG_at (k := 0) (fun j hj => by omega) (by simp [m0, s1]) (by omega)
  show [mapG M S 0, mapG M S 1] = [0, 0]
  rw [a, b]
set_option maxHeartbeats 16000000 in
set_option maxRecDepth 100000 in
theorem awake25_any (w : World) (hT : TZ w) (hP : P10 w) :
    Calls Tryz.prog 44 #[] w fun e w' => e = .returned (.bool true) ∧ Below w.heap.size w w' := by
  obtain ⟨W, hW⟩ : ∃ W, w.alloc (Obj.cells #[Value.string { data := #[65] }, Value.string { data := #[65] }] 9) = W := ⟨_, rfl⟩
  have hal : Below w.heap.size w W := by rw [← hW]; exact below_alloc (Below.refl _ _) _
  obtain ⟨g, hg⟩ : ∃ g, w.heap.size = g := ⟨_, rfl⟩
  have t1 : RdT W (some ⟨g, 0, none⟩) exT2 := rdT_lit (by rw [← hW, ← hg]; exact heap_alloc_new _ _) rfl (by decide)
  have HNw := Aside0.mk (show Calls Tryz.prog 20 #[.slice (some ⟨g, 0, none⟩) 2 2, .slice none 0 0] W _ from new_any (some ⟨g, 0, none⟩) 2 exT2 none 0 [] W t1 (rdE_none _) (by decide) (by decide) (fun a f z h => by cases h) ex2_light.2.1)
  obtain ⟨M, hM⟩ := may_bools exT2 [] 5
  obtain ⟨S, hS⟩ := same_bools exT2 []
  have HMS := Aside0.mk (And.intro hM hS)
  have Hal := Aside0.mk (And.intro hal (And.intro (hT.below hal) (hP.below hal)))
  clear t1 hT hP hal hM hS
  go_enter Tryz.func44, Tryz.ntmps44
  go_wp2_with fail
  try simp only [hg, hW]
  clear hW hg
  refine HNw.out.mono ?_
  rintro e w1 ⟨pg, lab, rfl, r1, r2⟩
  have HG1 := Aside0.mk (GA.mk ⟨lab, r1⟩)
  have HB1 := Aside0.mk r2
  have HMp := Aside0.mk (map_any pg exT2 [] 5 w1 HG1.out (Hal.out.2.1.below r2) (Hal.out.2.2.below r2) ex2_light (fun a f z h => by cases h) (by decide) (fun s hs => by simp [exT2] at hs; subst hs; decide) M HMS.out.1 S HMS.out.2)
  rw [show exT2.length = 2 from rfl, ex2_map HMS.out.1 HMS.out.2] at HMp
  clear r1 r2 HNw
  go_wp2_with fail
  refine HMp.out.mono ?_
  rintro e w2 ⟨u, rfl, r1, r2⟩
  obtain ⟨A3, c3, rfl, hc3, hr3⟩ := r1.toV
  have HU2 := Aside0.mk (show RdV w2 (.slice A3 ([0, 0] : List Int).length c3) [0, 0] from ⟨A3, c3, rfl, hc3, hr3⟩)
  have HB2 := Aside0.mk r2
  clear r1 r2 hc3 hr3 HMp
  go_wp2_with fail
  refine (map_nil 5 w2).mono ?_
  rintro e w3 ⟨rfl, rfl⟩
  have HSa := Aside0.mk (fun (W' : World) (hc : Below w2.heap.size w2 W') (g' : Nat) (hb : W'.heap[g']? = some (.cells #[.int .i64 0, .int .i64 0] 3 (0, 0))) => same_any (.slice A3 2 c3) (.slice (some ⟨g', 0, none⟩) 2 2) [0, 0] [0, 0] W' (HU2.out.below hc) (rdV_lit (l := [0, 0]) hb rfl (by simp)))
  rw [decide_eq_true (rfl : ([0, 0] : List Int) = [0, 0])] at HSa
  have HMy := Aside0.mk (fun (W' : World) (hc : Below w2.heap.size w2 W') => mayB_any W'.heap.size pg exT2 [] 1 5 W' (GAs.start ((HG1.out.below HB2.out).below hc)) (Nat.le_refl _) ((Hal.out.2.1.below HB1.out).below (bel_trans HB2.out hc)) ((Hal.out.2.2.below HB1.out).below (bel_trans HB2.out hc)) ex2_light (fun a f z h => by cases h) (by decide) true ⟨fun _ => bare_may (by decide) (by decide) (by decide), fun _ => rfl⟩)
  go_wp2_with fail
  refine (HSa.out _ (below_alloc (Below.refl _ _) _) _ (heap_alloc_new _ _)).mono ?_
  rintro e w4 ⟨rfl, r1⟩
  have HB4 := Aside0.mk (bel_trans (below_alloc (Below.refl w2.heap.size w2) _) r1)
  clear r1
  go_wp2_with fail
  refine (HMy.out w4 HB4.out).mono ?_
  rintro e w5 ⟨rfl, r1⟩
  have HB5 := Aside0.mk (bel_trans Hal.out.1 (bel_trans HB1.out (bel_trans HB2.out (bel_trans HB4.out r1))))
  clear r1
  go_wp2_with fail
  go_ret
  exact ⟨rfl, HB5.out⟩

end Go.Proofs.YtkpadjhdneiniaaGreatDoor.Am
