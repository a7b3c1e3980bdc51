/- The document's graph: Fields, Next. -/
import Derived.Test.YtkpadjhdneiniaaGreatDoorZd
namespace Go.Proofs.YtkpadjhdneiniaaGreatDoor.Rf
set_option linter.unusedVariables false
open Go.RowKit Go.Proofs.YtkpadjhdneiniaaGreatDoorW.PrintWords Go.Proofs.YtkpadjhdneiniaaGreatDoorW.PrintLast Go.Proofs.YtkpadjhdneiniaaGreatDoorW.PrintMore Go.Maps
open Go.Proofs.YtkpadjhdneiniaaGreatDoor.Base Go.Proofs.YtkpadjhdneiniaaGreatDoor.Map Go.Proofs.YtkpadjhdneiniaaGreatDoor.Sl Go.Proofs.YtkpadjhdneiniaaGreatDoor.Ow Go.Proofs.YtkpadjhdneiniaaGreatDoor.Se Go.Proofs.YtkpadjhdneiniaaGreatDoor.Gr

/-! plain -/
section
variable {E : List GE} {os : List Int} {i : Nat} {a f z : Int}
theorem fieldsT_more (hi : i < E.length) (he : E.getD i (0, 0, 0) = (a, f, z)) (h : os = [] ∨ a ∈ os) : fieldsG (E.take (i + 1)) os = ins (fieldsG (E.take i) os) f := by
  refine srt_ext (srt_fieldsG _ _) (srt_ins (srt_fieldsG _ _) _) fun x => ?_
  rw [mem_ins, mem_fieldsG, mem_fieldsG, ← take_snocE hi he]
  constructor
  · rintro ⟨a', b, h1, h2⟩
    rcases List.mem_append.1 h1 with h1 | h1
    · exact .inr ⟨a', b, h1, h2⟩
    · rw [List.mem_singleton] at h1; cases h1; exact .inl rfl
  · rintro (rfl | ⟨a', b, h1, h2⟩)
    · exact ⟨a, z, by simp, h⟩
    · exact ⟨a', b, List.mem_append_left _ h1, h2⟩
theorem fieldsT_skip (hi : i < E.length) (he : E.getD i (0, 0, 0) = (a, f, z)) (h : ¬ (os = [] ∨ a ∈ os)) : fieldsG (E.take (i + 1)) os = fieldsG (E.take i) os := by
  refine srt_ext (srt_fieldsG _ _) (srt_fieldsG _ _) fun x => ?_
  rw [mem_fieldsG, mem_fieldsG, ← take_snocE hi he]
  constructor
  · rintro ⟨a', b, h1, h2⟩
    rcases List.mem_append.1 h1 with h1 | h1
    · exact ⟨a', b, h1, h2⟩
    · rw [List.mem_singleton] at h1; cases h1; exact absurd h2 h
  · rintro ⟨a', b, h1, h2⟩
    exact ⟨a', b, List.mem_append_left _ h1, h2⟩
theorem nextT_more {k : Int} (hi : i < E.length) (he : E.getD i (0, 0, 0) = (a, f, z)) (h : f = k ∧ a ∈ os) : nextG (E.take (i + 1)) k os = ins (nextG (E.take i) k os) z := by
  refine srt_ext (srt_nextG _ _ _) (srt_ins (srt_nextG _ _ _) _) fun x => ?_
  rw [mem_ins, mem_nextG, mem_nextG, ← take_snocE hi he]
  constructor
  · rintro ⟨a', h1, h2⟩
    rcases List.mem_append.1 h1 with h1 | h1
    · exact .inr ⟨a', h1, h2⟩
    · rw [List.mem_singleton] at h1; cases h1; exact .inl rfl
  · rintro (rfl | ⟨a', h1, h2⟩)
    · exact ⟨a, by rw [← h.1]; simp, h.2⟩
    · exact ⟨a', List.mem_append_left _ h1, h2⟩
theorem nextT_skip {k : Int} (hi : i < E.length) (he : E.getD i (0, 0, 0) = (a, f, z)) (h : ¬ (f = k ∧ a ∈ os)) : nextG (E.take (i + 1)) k os = nextG (E.take i) k os := by
  refine srt_ext (srt_nextG _ _ _) (srt_nextG _ _ _) fun x => ?_
  rw [mem_nextG, mem_nextG, ← take_snocE hi he]
  constructor
  · rintro ⟨a', h1, h2⟩
    rcases List.mem_append.1 h1 with h1 | h1
    · exact ⟨a', h1, h2⟩
    · rw [List.mem_singleton] at h1; cases h1; exact absurd ⟨rfl, h2⟩ h
  · rintro ⟨a', h1, h2⟩
    exact ⟨a', List.mem_append_left _ h1, h2⟩
end
theorem fieldsT_len (E : List GE) (os : List Int) : (fieldsG E os).length ≤ E.length := by
  have h : ∀ l ns : List Int, (Sl.insL l ns).length ≤ l.length + ns.length := fun l ns => by
    induction ns generalizing l with
    | nil => simp [Sl.insL]
    | cons n ns ih =>
      have h1 : Sl.insL l (n :: ns) = Sl.insL (ins l n) ns := rfl
      have h2 := ins_len_le l n
      have h3 := ih (ins l n)
      rw [h1, List.length_cons]
      omega
  unfold fieldsG srtL
  have h1 := h [] ((E.filter fun e => os.isEmpty || os.contains e.1).map (·.2.1))
  have h2 := List.length_filter_le (fun e : GE => os.isEmpty || os.contains e.1) E
  rw [List.length_map] at h1
  simp only [List.length_nil] at h1
  omega
set_option maxHeartbeats 16000000 in
set_option maxRecDepth 100000 in
theorem rfields_any (A A2 : Option Addr) (n c c2 : Nat) (E : List GE) (u : Value) (os : List Int) (w : World) (hE : RdE w A2 E) (hu : RdV w u os) (hl : E.length ≤ 1000) :
    Calls Tryz.prog 34 #[.agg #[.slice A n c, .slice A2 E.length c2], u] w fun e w' => ∃ v, e = .returned v ∧ RdV w' v (fieldsG E os) ∧ Below w.heap.size w w' := by
  have hal : Below w.heap.size w (w.alloc (.cells #[.slice A n c, .slice A2 E.length c2] 25)) := below_alloc (Below.refl _ _) _
  have Hb : Aside0 ((w.alloc (.cells #[.slice A n c, .slice A2 E.length c2] 25)).heap[w.heap.size]? = some (.cells #[.slice A n c, .slice A2 E.length c2] 25 (0, 0))) := ⟨heap_alloc_new _ _⟩
  have HE := Aside0.mk (hE.below hal)
  have HU := Aside0.mk (hu.below hal)
  have Hl := Aside0.mk hl
  have Hal := Aside0.mk hal
  obtain ⟨A3, c3, rfl, hc3, hr3⟩ := hu
  obtain ⟨nE, hnE⟩ : ∃ n, E.length = n := ⟨_, rfl⟩
  obtain ⟨n3, hn3⟩ : ∃ n, os.length = n := ⟨_, rfl⟩
  have Hn := Aside0.mk (And.intro hnE hn3)
  obtain ⟨W, hW⟩ : ∃ W, w.alloc (.cells #[.slice A n c, .slice A2 E.length c2] 25) = W := ⟨_, rfl⟩
  rw [hW] at Hb HE HU Hal
  rw [hnE] at hW Hb ⊢
  rw [hn3] at HU ⊢
  clear hal hE hl hc3 hr3 hnE hn3
  go_enter Tryz.func34, Tryz.ntmps34
  go_wp2_with fail
  obtain ⟨g, hg⟩ : ∃ g, w.heap.size = g := ⟨_, rfl⟩
  have Hg := Aside0.mk hg
  rw [hg] at Hb
  simp only [hg]
  clear hW hg
  go_loopw [5, 6] (fun V I wr => ∃ i : Nat, I = .int .i64 (i : Int) ∧ i ≤ nE ∧ Aside0 (RdV wr V (fieldsG (E.take i) os)) ∧ Aside0 (Below W.heap.size W wr)) (fun _ I _ => nE - (intOf I).toNat)
  case atStart => exact ⟨0, rfl, Nat.zero_le _, ⟨by rw [List.take_zero]; exact (OwI.nil W 0).toV⟩, ⟨Below.refl _ _⟩⟩
  case round =>
    obtain ⟨i, rfl, hi, HV, HB⟩ := hrel
    have hb := Ow.blk_below Hb.out HB.out
    have g0 : wr.cell? ⟨g, 0, none⟩ = some (.slice A n c) := blk_cellD hb 0 _ rfl
    have g1 : wr.cell? ⟨g, 1, none⟩ = some (.slice A2 nE c2) := blk_cellD hb 1 _ rfl
    clear hb
    by_cases hin : i < nE
    · have hnb : decide ((i : Int) < (nE : Int)) = true := decide_eq_true (by omega)
      have hnc : decide (i < nE) = true := decide_eq_true hin
      have hil : i < E.length := by rw [Hn.out.1]; exact hin
      obtain ⟨ad, rfl, e0, e1, e2⟩ := (HE.out.below HB.out).at_ i hil
      obtain ⟨⟨ea, ef, ez⟩, hee⟩ : ∃ e, E.getD i (0, 0, 0) = e := ⟨_, rfl⟩
      rw [hee] at e0 e1 e2
      have i0 : 0 ≤ (i : Int) := by omega
      have i1 : (i : Int) < (nE : Int) := by omega
      have i2 : (i : Int) ≤ 1000000 := by have := Hl.out; have := Hn.out.1; omega
      have Hin := Aside0.mk (And.intro hin (And.intro hil hee))
      have HA1 := Aside0.mk (has_any _ os ea wr (by have h := HU.out.below HB.out; exact h))
      have HcA := Aside0.mk (fun (w1 : World) (hb : Below wr.heap.size wr w1) => And.intro (cell_bel hb e1) (And.intro (cell_bel hb e2) (And.intro (cell_bel hb g0) (cell_bel hb g1))))
      have HN := Aside0.mk (fun (w1 : World) (hb : Below wr.heap.size wr w1) (x : Int) => number_any u5 _ x w1 (HV.out.below hb) (srt_fieldsG _ _) (by have h1 := fieldsT_len (E.take i) os; have h2 := List.length_take_le i E; have := Hl.out; omega))
      clear hin hi hil hee
      replace i0 := eq_true i0
      replace i1 := eq_true i1
      by_cases h0 : os = []
      · have hz : n3 = 0 := by rw [← Hn.out.2, h0]; rfl
        have z1 : decide ((n3 : Int) = 0) = true := decide_eq_true (by omega)
        subst hz
        have Hst := Aside0.mk (fieldsT_more Hin.out.2.1 Hin.out.2.2 (.inl h0))
        have HNx := Aside0.mk (HN.out wr (Below.refl _ _) ef)
        go_wp2_with fail
        refine HNx.out.mono ?_
        rintro e w2 ⟨v2, rfl, r1, r2⟩
        rw [← Hst.out] at r1
        have HV2 := Aside0.mk r1
        have HB2 := Aside0.mk (bel_trans HB.out (bel_trans (Below.refl _ _) r2))
        clear r1 r2
        go_wp2_with fail
        go_roundw
        case rel => exact ⟨i + 1, by go_num, Hin.out.1, HV2, HB2⟩
        case measure => have := Hin.out.1; simp [intOf]; omega
      · have hz : n3 ≠ 0 := by rw [← Hn.out.2]; exact fun e => h0 (List.eq_nil_of_length_eq_zero e)
        have z1 : decide ((n3 : Int) = 0) = false := decide_eq_false (by omega)
        have z2 : ¬ (n3 : Int) = 0 := by omega
        have z3 : ((n3 : Int) == 0) = false := by simpa using z2
        have Hz := Aside0.mk h0
        clear h0
        go_wp2_with fail
        refine HA1.out.mono ?_
        rintro e w1 ⟨rfl, r1⟩
        clear e0 e1 e2 g0 g1 HA1
        have HB3 := Aside0.mk r1
        obtain ⟨e1, e2, g0, g1⟩ := HcA.out w1 r1
        clear r1
        by_cases hea : ea ∈ os
        · have d1 : decide (ea ∈ os) = true := decide_eq_true hea
          rw [d1]
          have Hst := Aside0.mk (fieldsT_more Hin.out.2.1 Hin.out.2.2 (.inr hea))
          have HNx := Aside0.mk (HN.out w1 HB3.out ef)
          go_wp2_with fail
          refine HNx.out.mono ?_
          rintro e w2 ⟨v2, rfl, r1, r2⟩
          rw [← Hst.out] at r1
          have HV2 := Aside0.mk r1
          have HB2 := Aside0.mk (bel_trans HB.out (bel_trans HB3.out r2))
          clear r1 r2
          go_wp2_with fail
          go_roundw
          case rel => exact ⟨i + 1, by go_num, Hin.out.1, HV2, HB2⟩
          case measure => have := Hin.out.1; simp [intOf]; omega
        · have d1 : decide (ea ∈ os) = false := decide_eq_false hea
          rw [d1]
          have Hst := Aside0.mk (fieldsT_skip Hin.out.2.1 Hin.out.2.2 (fun h => h.elim Hz.out hea))
          go_wp2_with fail
          go_roundw
          case rel => exact ⟨i + 1, by go_num, Hin.out.1, ⟨by rw [Hst.out]; exact HV.out.below HB3.out⟩, ⟨bel_trans HB.out HB3.out⟩⟩
          case measure => have := Hin.out.1; simp [intOf]; omega
    · have hnb : decide ((i : Int) < (nE : Int)) = false := decide_eq_false (by omega)
      have hnc : decide (i < nE) = false := decide_eq_false hin
      obtain rfl : i = nE := by omega
      have ht : E.take i = E := List.take_of_length_le (by rw [Hn.out.1]; exact Nat.le_refl _)
      rw [ht] at HV
      clear hin hi ht
      go_wp2_with fail
      go_ret
      exact ⟨_, rfl, HV.out, bel_trans Hal.out HB.out⟩

set_option maxHeartbeats 16000000 in
set_option maxRecDepth 100000 in
theorem rnext_any (A A2 : Option Addr) (n c c2 : Nat) (E : List GE) (k : Int) (u : Value) (os : List Int) (w : World) (hE : RdE w A2 E) (hu : RdV w u os) (hl : E.length ≤ 1000) :
    Calls Tryz.prog 42 #[.agg #[.slice A n c, .slice A2 E.length c2], .int .i64 k, u] w fun e w' => ∃ v, e = .returned v ∧ RdV w' v (nextG E k os) ∧ Below w.heap.size w w' := by
  have hal : Below w.heap.size w (w.alloc (.cells #[.slice A n c, .slice A2 E.length c2] 25)) := below_alloc (Below.refl _ _) _
  have Hb : Aside0 ((w.alloc (.cells #[.slice A n c, .slice A2 E.length c2] 25)).heap[w.heap.size]? = some (.cells #[.slice A n c, .slice A2 E.length c2] 25 (0, 0))) := ⟨heap_alloc_new _ _⟩
  have HE := Aside0.mk (hE.below hal)
  have HU := Aside0.mk (hu.below hal)
  have Hl := Aside0.mk hl
  have Hal := Aside0.mk hal
  obtain ⟨A3, c3, rfl, hc3, hr3⟩ := hu
  obtain ⟨nE, hnE⟩ : ∃ n, E.length = n := ⟨_, rfl⟩
  obtain ⟨n3, hn3⟩ : ∃ n, os.length = n := ⟨_, rfl⟩
  have Hn := Aside0.mk (And.intro hnE hn3)
  obtain ⟨W, hW⟩ : ∃ W, w.alloc (.cells #[.slice A n c, .slice A2 E.length c2] 25) = W := ⟨_, rfl⟩
  rw [hW] at Hb HE HU Hal
  rw [hnE] at hW Hb ⊢
  rw [hn3] at HU ⊢
  clear hal hE hl hc3 hr3 hnE hn3
  go_enter Tryz.func42, Tryz.ntmps42
  go_wp2_with fail
  obtain ⟨g, hg⟩ : ∃ g, w.heap.size = g := ⟨_, rfl⟩
  have Hg := Aside0.mk hg
  rw [hg] at Hb
  simp only [hg]
  clear hW hg
  go_loopw [7, 8] (fun V I wr => ∃ i : Nat, I = .int .i64 (i : Int) ∧ i ≤ nE ∧ Aside0 (RdV wr V (nextG (E.take i) k os)) ∧ Aside0 (Below W.heap.size W wr)) (fun _ I _ => nE - (intOf I).toNat)
  case atStart => exact ⟨0, rfl, Nat.zero_le _, ⟨by rw [List.take_zero]; exact (OwI.nil W 0).toV⟩, ⟨Below.refl _ _⟩⟩
  case round =>
    obtain ⟨i, rfl, hi, HV, HB⟩ := hrel
    have hb := Ow.blk_below Hb.out HB.out
    have g0 : wr.cell? ⟨g, 0, none⟩ = some (.slice A n c) := blk_cellD hb 0 _ rfl
    have g1 : wr.cell? ⟨g, 1, none⟩ = some (.slice A2 nE c2) := blk_cellD hb 1 _ rfl
    clear hb
    by_cases hin : i < nE
    · have hnb : decide ((i : Int) < (nE : Int)) = true := decide_eq_true (by omega)
      have hnc : decide (i < nE) = true := decide_eq_true hin
      have hil : i < E.length := by rw [Hn.out.1]; exact hin
      obtain ⟨ad, rfl, e0, e1, e2⟩ := (HE.out.below HB.out).at_ i hil
      obtain ⟨⟨ea, ef, ez⟩, hee⟩ : ∃ e, E.getD i (0, 0, 0) = e := ⟨_, rfl⟩
      rw [hee] at e0 e1 e2
      have i0 : 0 ≤ (i : Int) := by omega
      have i1 : (i : Int) < (nE : Int) := by omega
      have i2 : (i : Int) ≤ 1000000 := by have := Hl.out; have := Hn.out.1; omega
      have Hin := Aside0.mk (And.intro hin (And.intro hil hee))
      have HA1 := Aside0.mk (has_any _ os ea wr (by have h := HU.out.below HB.out; exact h))
      have HcA := Aside0.mk (fun (w1 : World) (hb : Below wr.heap.size wr w1) => And.intro (cell_bel hb e1) (And.intro (cell_bel hb e2) (And.intro (cell_bel hb g0) (cell_bel hb g1))))
      have HN := Aside0.mk (fun (w1 : World) (hb : Below wr.heap.size wr w1) (x : Int) => number_any u7 _ x w1 (HV.out.below hb) (srt_nextG _ _ _) (by have h1 := next_len (E.take i) k os; have h2 := List.length_take_le i E; have := Hl.out; omega))
      clear hin hi hil hee
      replace i0 := eq_true i0
      replace i1 := eq_true i1
      by_cases hk : ef = k
      · have z1 : decide (ef = k) = true := decide_eq_true hk
        have Hk := Aside0.mk hk
        subst hk
        go_wp2_with fail
        refine HA1.out.mono ?_
        rintro e w1 ⟨rfl, r1⟩
        clear e0 e1 e2 g0 g1 HA1
        have HB3 := Aside0.mk r1
        obtain ⟨e1, e2, g0, g1⟩ := HcA.out w1 r1
        clear r1
        by_cases hea : ea ∈ os
        · have d1 : decide (ea ∈ os) = true := decide_eq_true hea
          rw [d1]
          have Hst := Aside0.mk (nextT_more Hin.out.2.1 Hin.out.2.2 ⟨rfl, hea⟩)
          have HNx := Aside0.mk (HN.out w1 HB3.out ez)
          go_wp2_with fail
          refine HNx.out.mono ?_
          rintro e w2 ⟨v2, rfl, r1, r2⟩
          rw [← Hst.out] at r1
          have HV2 := Aside0.mk r1
          have HB2 := Aside0.mk (bel_trans HB.out (bel_trans HB3.out r2))
          clear r1 r2
          go_wp2_with fail
          go_roundw
          case rel => exact ⟨i + 1, by go_num, Hin.out.1, HV2, HB2⟩
          case measure => have := Hin.out.1; simp [intOf]; omega
        · have d1 : decide (ea ∈ os) = false := decide_eq_false hea
          rw [d1]
          have Hst := Aside0.mk (nextT_skip (k := ef) Hin.out.2.1 Hin.out.2.2 (fun h => hea h.2))
          go_wp2_with fail
          go_roundw
          case rel => exact ⟨i + 1, by go_num, Hin.out.1, ⟨by rw [Hst.out]; exact HV.out.below HB3.out⟩, ⟨bel_trans HB.out HB3.out⟩⟩
          case measure => have := Hin.out.1; simp [intOf]; omega
      · have z1 : decide (ef = k) = false := decide_eq_false hk
        have z3 : (ef == k) = false := by simpa using hk
        have Hst := Aside0.mk (nextT_skip (k := k) (os := os) Hin.out.2.1 Hin.out.2.2 (fun h => hk h.1))
        go_wp2_with fail
        go_roundw
        case rel => exact ⟨i + 1, by go_num, Hin.out.1, ⟨by rw [Hst.out]; exact HV.out.below (Below.refl _ _)⟩, ⟨bel_trans HB.out (Below.refl _ _)⟩⟩
        case measure => have := Hin.out.1; simp [intOf]; omega
    · have hnb : decide ((i : Int) < (nE : Int)) = false := decide_eq_false (by omega)
      have hnc : decide (i < nE) = false := decide_eq_false hin
      obtain rfl : i = nE := by omega
      have ht : E.take i = E := List.take_of_length_le (by rw [Hn.out.1]; exact Nat.le_refl _)
      rw [ht] at HV
      clear hin hi ht
      go_wp2_with fail
      go_ret
      exact ⟨_, rfl, HV.out, bel_trans Hal.out HB.out⟩
end Go.Proofs.YtkpadjhdneiniaaGreatDoor.Rf
