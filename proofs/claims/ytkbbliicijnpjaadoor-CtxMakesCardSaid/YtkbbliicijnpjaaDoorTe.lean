/- CtxMakes' walk. -/
import Derived.Test.YtkbbliicijnpjaaDoorTd
namespace Go.Proofs.YtkbbliicijnpjaaDoor.Tx
open Go.RowKit Go.Proofs.YtkbbliicijnpjaaDoorW.PrintWords Go.Proofs.YtkbbliicijnpjaaDoorW.PrintLast Go.Proofs.YtkbbliicijnpjaaDoorW.PrintMore
open Go.Proofs.YtkbbliicijnpjaaDoor.Base Go.Proofs.YtkbbliicijnpjaaDoor.Ca Go.Proofs.YtkbbliicijnpjaaDoor.PCtxMakes
set_option linter.unusedVariables false

/-- a row of ints that the call made: nil, or a block -/
theorem OwI.form {w : World} {base : Nat} {v : Value} {l : List Int} (h : OwI w base v l) : (v = .slice none 0 0 ∧ l = []) ∨ ∃ g c, v = .slice (some ⟨g, 0, none⟩) l.length c ∧ base ≤ g ∧ g < w.heap.size := by
  obtain ⟨A, c, hv, hc, hC⟩ := Kd.R_reads h.out
  obtain ⟨_, inner, ho, _⟩ := h.out
  rcases ho.2 with ⟨h1, h2⟩ | ⟨g, cap, cur, h1, hg, hh, _⟩
  · rw [hv] at h1
    simp only [Value.slice.injEq] at h1
    exact .inl ⟨by rw [hv, h1.1, h1.2.1, h1.2.2], List.eq_nil_of_length_eq_zero h1.2.1⟩
  · rw [hv] at h1
    simp only [Value.slice.injEq] at h1
    obtain ⟨rfl, _, _⟩ := h1
    exact .inr ⟨g, c, hv, hg, blk_lt hh⟩
theorem OwI.block {w : World} {base g n c : Nat} {l : List Int} (h : OwI w base (.slice (some ⟨g, 0, none⟩) n c) l) : ∃ cur, w.heap[g]? = some (.cells cur 3 (0, 0)) := by
  obtain ⟨_, inner, ho, _⟩ := h.out
  exact own_typed ho g rfl
theorem blk_below' {w w1 : World} {g : Nat} {o : Obj} (h : w.heap[g]? = some o) (hb : Below w.heap.size w w1) : w1.heap[g]? = some o := (hb.block g (blk_lt h)).trans h
/-- one element anew -/
theorem OwI.put {w : World} {base g c : Nat} {l : List Int} (h : OwI w base (.slice (some ⟨g, 0, none⟩) l.length c) l) (i : Nat) (x : Int) : OwI (w.setCell ⟨g, i, none⟩ (.int .i64 x)) base (.slice (some ⟨g, 0, none⟩) l.length c) (l.set i x) :=
  ⟨(Kd.R_put (enc := Value.int .i64) (h1 := fun _ => rfl) h.out (i : Int) x).1⟩
theorem ctxSelf_any {w : World} {u : Value} {l : List Int} (s : Int) (hu : RdV w u l) : Calls Tryd.prog 22 #[.agg #[.int .i64 s, u], .agg #[.int .i64 s, u]] w fun e w' => e = .returned (.bool true) ∧ Below w.heap.size w w' :=
  (ctxSame_any s s hu hu).mono fun e w' ⟨h1, h2⟩ => ⟨by rw [h1]; simp, h2⟩
/-- where a row of ints of the call's own lies -/
theorem OwI.lies {w : World} {base : Nat} {v : Value} {l : List Int} (h : OwI w base v l) : ∃ A c, v = .slice A l.length c ∧ l.length ≤ c ∧ ∀ ad, A = some ad → ∃ g, ad = ⟨g, 0, none⟩ ∧ base ≤ g ∧ g < w.heap.size := by
  obtain ⟨A, c, hv, hc, _⟩ := h.rd
  refine ⟨A, c, hv, hc, fun ad hA => ?_⟩
  rcases OwI.form h with ⟨h1, _⟩ | ⟨g, c', h1, h2, h3⟩
  · rw [hv, hA] at h1
    simp at h1
  · rw [hv, hA] at h1
    simp only [Value.slice.injEq, Option.some.injEq] at h1
    exact ⟨g, h1.1, h2, h3⟩
set_option maxHeartbeats 8000000 in
set_option maxRecDepth 100000 in
theorem ctxMakes_walk (k s1 s2 : Int) (u1 u2 : Value) (l m : List Int) (w : World) (hu : RdV w u1 l) (hv : RdV w u2 m) (hP : P10 w) (hwf : ∀ x ∈ l, (Lit.int .i64 x).wf = true) :
    Calls Tryd.prog 4 #[.int .i64 k, .agg #[.int .i64 s1, u1], .agg #[.int .i64 s2, u2]] w fun e w' => e = .returned (.bool true) ∧ Below w.heap.size w w' := by
  obtain ⟨b4, hb4⟩ : ∃ b, w.heap.size = b := ⟨_, rfl⟩
  obtain ⟨b5, hb5⟩ : ∃ b, b4 + 1 = b := ⟨_, rfl⟩
  have hwb : ∀ wb, (w.alloc (.cells #[.int .i64 s1, u1] 36)).alloc (.cells #[.int .i64 s2, u2] 36) = wb → wb.heap[b4]? = some (.cells #[.int .i64 s1, u1] 36 (0, 0)) ∧ wb.heap[b5]? = some (.cells #[.int .i64 s2, u2] 36 (0, 0)) ∧ Below w.heap.size w wb := by
    rintro wb rfl
    subst hb4 hb5
    refine ⟨blk_below' (heap_alloc_new _ _) (below_alloc (Below.refl _ _) _), ?_, below_alloc (below_alloc (Below.refl _ _) _) _⟩
    rw [show w.heap.size + 1 = (w.alloc (.cells #[.int .i64 s1, u1] 36)).heap.size by simp]
    exact heap_alloc_new _ _
  have HU := Aside0.mk hu
  have HV := Aside0.mk hv
  have HP := Aside0.mk hP
  have HW := Aside0.mk hwf
  obtain ⟨A, c, rfl, hc, hrr⟩ := hu
  obtain ⟨A2, c2, rfl, hc2, hrr2⟩ := hv
  clear hrr hrr2 hP hwf
  by_cases h10 : (10 : Int) < l.length
  · go_enter Tryd.func4, Tryd.ntmps4
    go_wp2_with fail
    clear hb4 hb5
    generalize hq : (w.alloc (.cells #[.int .i64 s1, .slice A l.length c] 36)).alloc (.cells #[.int .i64 s2, .slice A2 m.length c2] 36) = wb
    obtain ⟨B4, B5, hB⟩ := hwb wb hq
    clear hwb hq
    refine (awake_any _).mono ?_
    rintro e w1 ⟨rfl, h1⟩
    have c1 := blk_cell (blk_below' B4 h1) 1
    have e1 := blk_cell (blk_below' B5 h1) 1
    go_wp2_with fail
    refine (awake_any _).mono ?_
    rintro e w2 ⟨rfl, h2⟩
    go_wp2
    go_ret
    exact ⟨rfl, below_then hB hB.size (bel_trans h1 h2)⟩
  by_cases h11 : (10 : Int) < m.length
  · have d1 : decide ((l.length : Int) > 10) = false := decide_eq_false (by omega)
    have d2 : decide ((10 : Int) < (l.length : Int)) = false := decide_eq_false (by omega)
    have d3 : decide (10 < l.length) = false := decide_eq_false (by omega)
    go_enter Tryd.func4, Tryd.ntmps4
    go_wp2_with fail
    clear hb4 hb5
    generalize hq : (w.alloc (.cells #[.int .i64 s1, .slice A l.length c] 36)).alloc (.cells #[.int .i64 s2, .slice A2 m.length c2] 36) = wb
    obtain ⟨B4, B5, hB⟩ := hwb wb hq
    clear hwb hq
    refine (awake_any _).mono ?_
    rintro e w1 ⟨rfl, h1⟩
    have c1 := blk_cell (blk_below' B4 h1) 1
    have e1 := blk_cell (blk_below' B5 h1) 1
    go_wp2_with fail
    refine (awake_any _).mono ?_
    rintro e w2 ⟨rfl, h2⟩
    go_wp2
    go_ret
    exact ⟨rfl, below_then hB hB.size (bel_trans h1 h2)⟩
  have Hc := Aside0.mk hc
  have Hc2 := Aside0.mk hc2
  have Hl := Aside0.mk (show l.length ≤ 10 by omega)
  have Hm := Aside0.mk (show m.length ≤ 10 by omega)
  have d1 : decide ((l.length : Int) > 10) = false := decide_eq_false (by omega)
  have d2 : decide ((10 : Int) < (l.length : Int)) = false := decide_eq_false (by omega)
  have d3 : decide (10 < l.length) = false := decide_eq_false (by omega)
  have d4 : decide ((m.length : Int) > 10) = false := decide_eq_false (by omega)
  have d5 : decide ((10 : Int) < (m.length : Int)) = false := decide_eq_false (by omega)
  have d6 : decide (10 < m.length) = false := decide_eq_false (by omega)
  clear h10 h11 hc hc2
  go_enter Tryd.func4, Tryd.ntmps4
  go_wp2_with fail
  clear hb4 hb5
  generalize hq : (w.alloc (.cells #[.int .i64 s1, .slice A l.length c] 36)).alloc (.cells #[.int .i64 s2, .slice A2 m.length c2] 36) = wb
  obtain ⟨B4, B5, hB⟩ := hwb wb hq
  clear hwb hq
  refine (awake_any _).mono ?_
  rintro e w1 ⟨rfl, h1⟩
  have HB4 := Aside0.mk ((h1.block _ (blk_lt B4)).trans B4)
  have HB5 := Aside0.mk ((h1.block _ (blk_lt B5)).trans B5)
  have HB := Aside0.mk (below_then hB hB.size h1)
  have c0 := blk_cell HB4.out 0
  have c1 := blk_cell HB4.out 1
  have e0 := blk_cell HB5.out 0
  have e1 := blk_cell HB5.out 1
  clear B4 B5 hB h1
  have ha : Below w1.heap.size w1 (w1.alloc (.cells #[] 3)) := below_alloc (Below.refl _ _) _
  have c1a : (w1.alloc (.cells #[] 3)).cell? ⟨b4, 1, none⟩ = some (.slice A l.length c) := bel_cell ha c1
  have HA := Aside0.mk ha
  have HU1 := Aside0.mk (HU.out.below HB.out)
  clear ha
  go_wp2_with (first | (at_builtin; refine appB (wb := w1) rfl (.tmp 27) (.tmp 29) rfl _ _ [] l rfl rfl (R_empty w1) (HU1.out.below HA.out) HA.out (by have := Hl.out; simp; omega) ?_; intro v7 w2 H7 B2 hg hat; clear hg hat))
  rw [List.nil_append] at H7
  replace HB4 := Aside0.mk (blk_below' HB4.out B2)
  replace HB5 := Aside0.mk (blk_below' HB5.out B2)
  have HU2 := Aside0.mk (HU1.out.below B2)
  have HB42 := HB4
  replace HB := Aside0.mk (below_then HB.out HB.out.size B2)
  have HR7 := Aside0.mk (OwI.toV H7)
  clear c0 c1 e0 e1 c1a HA HU1 B2 H7
  have c0 := blk_cell HB4.out 0
  have c1 := blk_cell HB4.out 1
  have HBr := Below.refl w2.heap.size w2
  go_region_held3 (fun w' => w'.cell? ⟨b4, 0, none⟩ = some (.int .i64 s1) ∧ w'.cell? ⟨b4, 1, none⟩ = some (.slice A l.length c) ∧ Below w2.heap.size w2 w') (first | (exact ⟨bel_cell HB1 c0, bel_cell HB1 c1, HB1⟩) | go_keep)
    (first | (go_at_call 15; (with_reducible refine (of_any k s1 _ l _ (HU2.out.below (by simp [*])) (by have := Hl.out; omega)).mono ?_); rintro e w3 ⟨v8, rfl, H8, B8⟩; have HB1 := bel_trans (wb := w2) (by simp [*]) B8) | (go_at_call 16; (with_reducible refine (made_any k _ l _ (HU2.out.below (by simp [*])) (by have := Hl.out; omega)).mono ?_); rintro e w4 ⟨v9, rfl, H9, B9⟩; have HB2 := bel_trans HB1 B9; clear HB1; have HB1 := HB2; clear HB2) | (fail))
  have H8 : OwI w3 w2.heap.size v8 (ofL k s1 l) := H8
  have HX : Aside0 (w3.heap.size ≤ w4.heap.size) := ⟨B9.size⟩
  have HX2 : Aside0 (w2.heap.size ≤ w3.heap.size) := ⟨B8.size⟩
  obtain ⟨la, hla⟩ : ∃ la, ofL k s1 l = la := ⟨_, rfl⟩
  obtain ⟨lb, hlb⟩ : ∃ lb, madeL k l = lb := ⟨_, rfl⟩
  rw [hla] at H8
  rw [hlb] at H9
  have Hla := Aside0.mk hla
  have Hlb := Aside0.mk hlb
  have hlen : la.length ≤ 11 ∧ lb.length ≤ 10 := by
    have := Hl.out
    rw [← hla, ← hlb]
    unfold ofL madeL lastL
    rw [List.length_drop, List.length_drop, List.length_append]
    simp
    omega
  have Hlen := Aside0.mk hlen
  have F8 := Aside0.mk H8
  have H8' := Aside0.mk (H8.below B9)
  have F9 := Aside0.mk H9
  have HU4 := Aside0.mk (HU2.out.below HB1)
  have HV4 := Aside0.mk (HV.out.below (below_then HB.out HB.out.size HB1))
  replace HB4 := Aside0.mk (blk_below' HB4.out HB1)
  replace HB5 := Aside0.mk (blk_below' HB5.out HB1)
  have HP4 := Aside0.mk (HP.out.below (below_then HB.out HB.out.size HB1))
  have G8 := Aside0.mk (OwI.toV H8'.out)
  have G9 := Aside0.mk (OwI.toV H9)
  have HR7b := Aside0.mk (HR7.out.below HB1)
  have HB24 := Aside0.mk HB1
  obtain ⟨tx, htx⟩ : ∃ t, textS l = t := ⟨_, rfl⟩
  have Htx := Aside0.mk htx
  obtain ⟨q, hq⟩ : ∃ q, decide (s1 = s2 ∧ l = m) = q := ⟨_, rfl⟩
  have Hq := Aside0.mk hq
  have hT := HU2
  clear htx hq hlen hla hlb H8 H9 B8 B9 HB1 c0 c1 HBr
  have c0 := blk_cell HB4.out 0
  have c1 := blk_cell HB4.out 1
  have e0 := blk_cell HB5.out 0
  have e1 := blk_cell HB5.out 1
  go_wp2_with fail
  have HB1 := Below.refl w4.heap.size w4
  go_region_held3 (fun w' => w'.cell? ⟨b4, 0, none⟩ = some (.int .i64 s1) ∧ w'.cell? ⟨b4, 1, none⟩ = some (.slice A l.length c) ∧ w'.cell? ⟨b5, 0, none⟩ = some (.int .i64 s2) ∧ w'.cell? ⟨b5, 1, none⟩ = some (.slice A2 m.length c2) ∧ Below w4.heap.size w4 w') (first | (exact ⟨bel_cell HB1 c0, bel_cell HB1 c1, bel_cell HB1 e0, bel_cell HB1 e1, HB1⟩) | go_keep)
    (first
      | (go_at_call 18; (with_reducible refine (refOf_any k s1 (HU4.out.below (by simp [*])) (by have := Hl.out; omega)).mono ?_); rintro e w5 ⟨v5, rfl, H5, B5⟩; rw [Hla.out] at H5; have R5 := Aside0.mk (OwI.toV H5); have HB2 := bel_trans (wb := w4) (by simp [*]) B5; clear HB1 H5 B5; have HB1 := HB2; clear HB2)
      | (go_at_call 17; (with_reducible refine (same_any v8 v5 la la _ (G8.out.below (by simp [*])) R5.out).mono ?_); rintro e w6 ⟨rfl, B6⟩; rw [beq_self_eq_true]; have HB2 := bel_trans HB1 B6; clear HB1 B6; have HB1 := HB2; clear HB2)
      | (go_at_call 19; (with_reducible refine (refMade_any k (HU4.out.below (by simp [*])) (by have := Hl.out; omega)).mono ?_); rintro e w7 ⟨v7b, rfl, H7, B7⟩; rw [Hlb.out] at H7; have R7 := Aside0.mk (OwI.toV H7); have HB2 := bel_trans HB1 B7; clear HB1 H7 B7; have HB1 := HB2; clear HB2)
      | (go_at_call 17; (with_reducible refine (same_any v9 v7b lb lb _ (G9.out.below (by simp [*])) R7.out).mono ?_); rintro e w8 ⟨rfl, B8⟩; rw [beq_self_eq_true]; have HB2 := bel_trans HB1 B8; clear HB1 B8; have HB1 := HB2; clear HB2)
      | (go_at_call 20; (with_reducible refine (text_any _ l _ (HU4.out.below (by simp [*])) (HP4.out.below (by simp [*])) HW.out (by have := Hl.out; omega)).mono ?_); rintro e w9 ⟨rfl, B9⟩; rw [Htx.out]; have HB2 := bel_trans HB1 B9; clear HB1 B9; have HB1 := HB2; clear HB2)
      | (go_at_call 21; (with_reducible refine (refText_any (HU4.out.below (by simp [*])) (by have := Hl.out; omega) HW.out).mono ?_); rintro e w10 ⟨rfl, B10⟩; rw [Htx.out]; have HB2 := bel_trans HB1 B10; clear HB1 B10; have HB1 := HB2; clear HB2)
      | (go_at_call 22; (with_reducible refine (ctxSame_any s1 s2 (HU4.out.below (by simp [*])) (HV4.out.below (by simp [*]))).mono ?_); rintro e w11 ⟨rfl, B11⟩; rw [Hq.out]; have HB2 := bel_trans HB1 B11; clear HB1 B11; have HB1 := HB2; clear HB2)
      | (go_at_call 23; (with_reducible refine (refSame_any s1 s2 (HU4.out.below (by simp [*])) (HV4.out.below (by simp [*]))).mono ?_); rintro e w12 ⟨rfl, B12⟩; rw [Hq.out]; have HB2 := bel_trans HB1 B12; clear HB1 B12; have HB1 := HB2; clear HB2)
      | (go_at_call 22; (with_reducible refine (ctxSelf_any s1 (HU4.out.below (by simp [*]))).mono ?_); rintro e w13 ⟨rfl, B13⟩; have HB2 := bel_trans HB1 B13; clear HB1 B13; have HB1 := HB2; clear HB2)
      | (fail))
  obtain ⟨A8, c8, rfl, hc8, hf8⟩ := OwI.lies F8.out
  obtain ⟨A9, c9, rfl, hc9, hf9⟩ := OwI.lies F9.out
  have HF8 := Aside0.mk hf8
  have HF9 := Aside0.mk hf9
  have K8 := Aside0.mk (H8'.out.below HB1)
  have K9 := Aside0.mk (F9.out.below HB1)
  have KB := Aside0.mk (bel_trans HB24.out HB1)
  have HB4b := Aside0.mk (blk_below' HB4.out HB1)
  have HU13 := Aside0.mk (HU4.out.below HB1)
  have HR13 := Aside0.mk (HR7b.out.below HB1)
  have HBw := Aside0.mk (below_then HB.out HB.out.size HB24.out)
  clear c0 c1 e0 e1 HB1 hf8 hf9 hc8 hc9
  go_wp2_with fail
  go_loopw [10] (fun I wr => ∃ (i : Nat) (l1 : List Int), I = .int .i64 (i : Int) ∧ i ≤ la.length ∧ l1.length = la.length ∧ Aside0 (OwI wr w2.heap.size (.slice A8 la.length c8) l1) ∧ Aside0 (OwI wr w3.heap.size (.slice A9 lb.length c9) lb) ∧ Aside0 (Below w2.heap.size w2 wr)) (fun I _ => la.length - (intOf I).toNat)
  case atStart => exact ⟨0, la, rfl, Nat.zero_le _, rfl, K8, K9, KB⟩
  case round =>
    clear K8 K9 KB
    obtain ⟨i, l1, rfl, hi, hl1, K8, K9, KB⟩ := hrel
    by_cases hin : i < la.length
    · have hnb : decide ((i : Int) < (la.length : Int)) = true := decide_eq_true (by omega)
      have hnc : decide (i < la.length) = true := decide_eq_true hin
      obtain ⟨A8', c8', hv8, hcc8, hr8⟩ := K8.out.rd
      simp only [Value.slice.injEq] at hv8
      obtain ⟨rfl, -, rfl⟩ := hv8
      obtain ⟨ad, rfl, hcell⟩ := hr8.at_ (i : Int) (by omega) (by omega)
      obtain ⟨g, rfl, hg1, hg2⟩ := HF8.out ad rfl
      have K8' := K8.out
      rw [← hl1] at K8'
      obtain ⟨cell8, fr8⟩ := Kd.R_cell (enc := Value.int .i64) (h1 := fun _ => rfl) 0 K8'.out (i : Int) (by omega) (by omega)
      rw [Int.toNat_natCast] at cell8 fr8
      generalize rdOf (0 : Int) l1 (i : Int) = x at cell8
      have i0 : 0 ≤ (i : Int) := by omega
      have i1 : (i : Int) < (la.length : Int) := by omega
      have hw : Aside0 (wrap64 ((i : Int) + 1) = ((i + 1 : Nat) : Int)) := ⟨by have := Hlen.out; unfold wrap64; omega⟩
      have Hin := Aside0.mk hin
      have Hl1 := Aside0.mk hl1
      have KP := Aside0.mk (OwI.put K8' i (wrap64 (x + 1)))
      have Kg := Aside0.mk hg1
      have Kg2 := Aside0.mk hg2
      clear hin hi hl1 hcell hr8 hcc8 K8' hg1 hg2
      replace i0 := eq_true i0
      replace i1 := eq_true i1
      go_wp2_with fail
      go_roundw
      case rel => exact ⟨i + 1, l1.set i (wrap64 (x + 1)), by rw [hw.out], Hin.out, by rw [List.length_set]; exact Hl1.out, ⟨by have := KP.out; rw [Hl1.out] at this; exact this⟩, ⟨K9.out.far (p := ⟨g, i, none⟩) Kg2.out _⟩, ⟨below_setCell KB.out Kg.out _⟩⟩
      case measure => exact msr hw.out Hin.out
    · have hnb : decide ((i : Int) < (la.length : Int)) = false := decide_eq_false (by omega)
      have hnc : decide (i < la.length) = false := decide_eq_false hin
      clear hin hi
      go_wp2_with fail
      go_loopw [11] (fun I wr2 => ∃ (j : Nat) (l2 : List Int), I = .int .i64 (j : Int) ∧ j ≤ lb.length ∧ l2.length = lb.length ∧ Aside0 (OwI wr2 w3.heap.size (.slice A9 lb.length c9) l2) ∧ Aside0 (Below w2.heap.size w2 wr2)) (fun I _ => lb.length - (intOf I).toNat)
      case atStart => exact ⟨0, lb, rfl, Nat.zero_le _, rfl, K9, KB⟩
      case round =>
        clear K9 KB K8
        obtain ⟨j, l2, rfl, hj, hl2, K9, KB⟩ := hrel
        by_cases hjn : j < lb.length
        · have hnb : decide ((j : Int) < (lb.length : Int)) = true := decide_eq_true (by omega)
          have hnc : decide (j < lb.length) = true := decide_eq_true hjn
          obtain ⟨A9', c9', hv9, hcc9, hr9⟩ := K9.out.rd
          simp only [Value.slice.injEq] at hv9
          obtain ⟨rfl, -, rfl⟩ := hv9
          obtain ⟨ad, rfl, hcell⟩ := hr9.at_ (j : Int) (by omega) (by omega)
          obtain ⟨g, rfl, hg1, hg2⟩ := HF9.out ad rfl
          have K9' := K9.out
          rw [← hl2] at K9'
          obtain ⟨cell9, fr9⟩ := Kd.R_cell (enc := Value.int .i64) (h1 := fun _ => rfl) 0 K9'.out (j : Int) (by omega) (by omega)
          rw [Int.toNat_natCast] at cell9 fr9
          generalize rdOf (0 : Int) l2 (j : Int) = x at cell9
          have i0 : 0 ≤ (j : Int) := by omega
          have i1 : (j : Int) < (lb.length : Int) := by omega
          have hw : Aside0 (wrap64 ((j : Int) + 1) = ((j + 1 : Nat) : Int)) := ⟨by have := Hlen.out; unfold wrap64; omega⟩
          have Hjn := Aside0.mk hjn
          have Hl2 := Aside0.mk hl2
          have KP := Aside0.mk (OwI.put K9' j (wrap64 (x + 1)))
          have Kg := Aside0.mk (show w2.heap.size ≤ g by have := HX2.out; omega)
          clear hjn hj hl2 hcell hr9 hcc9 K9' hg1 hg2
          replace i0 := eq_true i0
          replace i1 := eq_true i1
          go_wp2_with fail
          go_roundw
          case rel => exact ⟨j + 1, l2.set j (wrap64 (x + 1)), by rw [hw.out], Hjn.out, by rw [List.length_set]; exact Hl2.out, ⟨by have := KP.out; rw [Hl2.out] at this; exact this⟩, ⟨below_setCell KB.out Kg.out _⟩⟩
          case measure => exact msr hw.out Hjn.out
        · have hnb : decide ((j : Int) < (lb.length : Int)) = false := decide_eq_false (by omega)
          have hnc : decide (j < lb.length) = false := decide_eq_false hjn
          have c1 := blk_cell (blk_below' HB42.out KB.out) 1
          clear hjn hj
          go_wp2_with fail
          refine (same_any _ _ l l _ (HU2.out.below KB.out) (HR7.out.below KB.out)).mono ?_
          rintro e w14 ⟨rfl, B14⟩
          rw [beq_self_eq_true]
          go_wp2
          go_ret
          exact ⟨rfl, below_then (below_then HB.out HB.out.size KB.out) (below_then HB.out HB.out.size KB.out).size B14⟩
end Go.Proofs.YtkbbliicijnpjaaDoor.Tx
