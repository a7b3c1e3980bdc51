/- graph.New. -/
import Derived.Test.YtfgonclaiphoeaaGreatDoorGe
import Derived.Laws.Rows
namespace Go.Proofs.YtfgonclaiphoeaaGreatDoor.Gr
set_option linter.unusedVariables false
open Go.RowKit Go.Proofs.YtfgonclaiphoeaaGreatDoorW.PrintWords Go.Proofs.YtfgonclaiphoeaaGreatDoorW.PrintLast Go.Proofs.YtfgonclaiphoeaaGreatDoorW.PrintMore Go.Maps
open Go.Proofs.YtfgonclaiphoeaaGreatDoor.Base Go.Proofs.YtfgonclaiphoeaaGreatDoor.Map Go.Proofs.YtfgonclaiphoeaaGreatDoor.Sl Go.Proofs.YtfgonclaiphoeaaGreatDoor.Ow Go.Proofs.YtfgonclaiphoeaaGreatDoor.Se

/-- an edge in a row -/
def edgeC (e : GE) : List Value := [.int .i64 e.1, .int .i64 e.2.1, .int .i64 e.2.2]
def kE : Kd GE where
  sz := 3
  E := []
  K := fun _ e cs => cs = edgeC e
  M := fun _ _ _ e cs => cs = edgeC e
  K_len := fun h => by rw [h]; rfl
  K_one := fun h u hu => by rw [h] at hu; simp only [edgeC, List.mem_cons, List.not_mem_nil, or_false] at hu; rcases hu with rfl | rfl | rfl <;> rfl
  K_below := fun _ h => h
  K_of_M := fun h => h
  M_mono := fun _ h => h
  M_bound := fun h => h
  M_move := fun _ h => h
  M_lower := fun _ h => h
/-- a slice of edges, read; of texts, read -/
structure RdE (w : World) (A : Option Addr) (E : List GE) : Prop where mk :: (out : kE.C w A E.length E)
structure RdT (w : World) (A : Option Addr) (T : List ByteArray) : Prop where mk :: (out : Kd.string.C w A T.length T)
theorem RdE.below {w w1 : World} {A : Option Addr} {E : List GE} (h : RdE w A E) (hb : Below w.heap.size w w1) : RdE w1 A E := ⟨Kd.C_below h.out hb⟩
theorem RdT.below {w w1 : World} {A : Option Addr} {T : List ByteArray} (h : RdT w A T) (hb : Below w.heap.size w w1) : RdT w1 A T := ⟨Kd.C_below h.out hb⟩
theorem RdE.at_ {w : World} {A : Option Addr} {E : List GE} (h : RdE w A E) (i : Nat) (hi : i < E.length) :
    ∃ ad, A = some ad ∧ w.cell? (ad.add (i * 3)) = some (.int .i64 (E.getD i (0, 0, 0)).1) ∧ w.cell? ⟨(ad.add (i * 3)).block, (ad.add (i * 3)).off + 1, none⟩ = some (.int .i64 (E.getD i (0, 0, 0)).2.1) ∧ w.cell? ⟨(ad.add (i * 3)).block, (ad.add (i * 3)).off + 2, none⟩ = some (.int .i64 (E.getD i (0, 0, 0)).2.2) := by
  obtain ⟨ad, c, hA, _, hk, hc⟩ := Kd.C_get h.out (0, 0, 0) (i : Int) (by omega) (by omega)
  rw [Int.toNat_natCast] at hk hc
  have hk' : c = edgeC (E.getD i (0, 0, 0)) := hk
  subst hk'
  have e : ∀ j, j ≠ 0 → ad.add (i * 3 + j) = ⟨(ad.add (i * 3)).block, (ad.add (i * 3)).off + j, none⟩ := fun j hj => by
    unfold Addr.add
    rw [if_neg (by omega)]
    split
    · simp
    · simp; omega
  refine ⟨ad, hA, hc 0 _ rfl, ?_, ?_⟩
  · rw [← e 1 (by omega)]; exact hc 1 _ rfl
  · rw [← e 2 (by omega)]; exact hc 2 _ rfl
theorem RdT.at_ {w : World} {A : Option Addr} {T : List ByteArray} (h : RdT w A T) (i : Nat) (hi : i < T.length) : ∃ ad, A = some ad ∧ w.cell? (ad.add i) = some (.string (T.getD i ByteArray.empty)) := by
  obtain ⟨ad, c, hA, _, hk, hc⟩ := Kd.C_get h.out ByteArray.empty (i : Int) (by omega) (by omega)
  rw [Int.toNat_natCast] at hk hc
  have hk' : c = [Value.string (T.getD i ByteArray.empty)] := hk
  subst hk'
  refine ⟨ad, hA, ?_⟩
  have := hc 0 _ rfl
  simpa [Kd.string, Kd.scalar] using this
/-- Clone, of texts -/
theorem cloneT_any (A : Option Addr) (c : Nat) (T : List ByteArray) (w : World) (h : RdT w A T) (hl : T.length * 16 ≤ 140737488355328) :
    Calls Tryz.prog 22 #[.slice A T.length c] w fun e w' => ∃ v', e = .returned v' ∧ Kd.R Kd.string 9 w' w.heap.size (fun _ => True) v' T ∧ Below w.heap.size w w' := by
  rcases Nat.eq_zero_or_pos T.length with h0 | h0
  · obtain rfl := List.eq_nil_of_length_eq_zero h0
    cases A with
    | none =>
      refine (Tryz.slices_Clone_string_nil _ c w).mono ?_
      rintro e w' ⟨rfl, rfl⟩
      exact ⟨_, rfl, Kd.R_nil _ _ _ _ _, Below.refl _ _⟩
    | some ad =>
      refine (Tryz.slices_Clone_string_zero ad c w).mono ?_
      rintro e w' ⟨v', rfl, ho, _, hb⟩
      exact ⟨_, rfl, Kd.R_of_own ho (fun _ _ => trivial), hb⟩
  · obtain ⟨ad, rfl, hx⟩ := h.at_ 0 h0
    obtain ⟨b, off, sp⟩ := ad
    obtain rfl : sp = none := by
      cases sp with
      | none => rfl
      | some s =>
        have hx2 : w.cell? ⟨b, off, some s⟩ = some (.string (T.getD 0 ByteArray.empty)) := hx
        unfold World.cell? at hx2
        split at hx2
        · simp at hx2
        · cases hx2
    refine (Tryz.slices_Clone_string b off T.length c T w (Nat.le_refl _) hl (fun j hj => ?_)).mono ?_
    · obtain ⟨ad2, e2, hx2⟩ := h.at_ j hj
      cases e2
      have e3 : (⟨b, off, none⟩ : Addr).add j = ⟨b, off + j, none⟩ := by unfold Addr.add; split <;> simp_all
      rw [e3] at hx2
      exact hx2
    rintro e w' ⟨v', rfl, ho, _, hb⟩
    rw [List.take_of_length_le (Nat.le_refl _)] at ho
    exact ⟨_, rfl, Kd.R_of_own ho (fun _ _ => trivial), hb⟩
/-- a graph without edges -/
theorem graph_start (w w1 : World) (v : Value) (T : List ByteArray) (hb : Below w.heap.size w w1) (hv : Kd.R Kd.string 9 w1 w.heap.size (fun _ => True) v T) :
    ∃ lab, GN (((w1.alloc (.map #[] 0)).alloc (.map #[] 0)).alloc (.cells #[v, .map (some w1.heap.size), .map (some (w1.heap.size + 1))] 50)) lab (w1.heap.size + 2) T [] ∧ (∀ k, lab k ≠ none → w.heap.size ≤ k) := by
  have hs := hb.size
  obtain ⟨W1, e1⟩ : ∃ x, w1.alloc (.map #[] 0) = x := ⟨_, rfl⟩
  obtain ⟨W2, e2⟩ : ∃ x, W1.alloc (.map #[] 0) = x := ⟨_, rfl⟩
  have z1 : W1.heap.size = w1.heap.size + 1 := by rw [← e1]; simp
  have z2 : W2.heap.size = w1.heap.size + 2 := by rw [← e2]; simp [z1]
  have b1 : Below w1.heap.size w1 W1 := by rw [← e1]; exact below_alloc (Below.refl _ _) _
  have b2 : Below W1.heap.size W1 W2 := by rw [← e2]; exact below_alloc (Below.refl _ _) _
  have b3 := below_alloc (Below.refl W2.heap.size W2) (.cells #[v, .map (some w1.heap.size), .map (some (w1.heap.size + 1))] 50)
  rw [e1, e2]
  have z3 : (W2.alloc (.cells #[v, .map (some w1.heap.size), .map (some (w1.heap.size + 1))] 50)).heap.size = w1.heap.size + 3 := by simp [z2]
  have hon : ∀ k, w.heap.size ≤ k → k < w1.heap.size + 3 → on (fun k => if w.heap.size ≤ k ∧ k < w1.heap.size + 3 then some Tag.base else none) .base k := fun k h1 h2 => if_pos ⟨h1, h2⟩
  have m1 := MapP.made w1 Tryz.prog 54
  rw [e1] at m1
  have m2 := MapP.made W1 Tryz.prog 3
  rw [e2, z1] at m2
  refine ⟨fun k => if w.heap.size ≤ k ∧ k < w1.heap.size + 3 then some Tag.base else none, ⟨v, w1.heap.size, w1.heap.size + 1, fun _ => none, fun _ => none, 0, 0, ?_, ?_, (m1.below b2).below b3, m2.below b3, ⟨hon _ (by omega) (by omega), hon _ (by omega) (by omega), hon _ (by omega) (by omega), by omega⟩, fun k hk => ?_, fun a f _ _ => ⟨fun h => ?_, fun _ => rfl⟩, fun a _ => ⟨srt_fieldsG _ _, fun h => absurd rfl h, fun _ => rfl⟩, (fun kl h => by cases h), Nat.zero_le _, Nat.zero_le _⟩, fun k hk => ?_⟩
  · have := heap_alloc_new W2 (.cells #[v, .map (some w1.heap.size), .map (some (w1.heap.size + 1))] 50)
    rw [z2] at this; exact this
  · refine Kd.R_below (Kd.R_below (Kd.R_below ?_ b1) b2) b3
    exact Kd.R_lower (Kd.R_mono (Kd.R_bound hv) (fun k hk => hon k hk.2.1 (by have := hk.2.2.1; omega))) (Nat.zero_le _)
  · rw [z3]
    by_cases h : w.heap.size ≤ k ∧ k < w1.heap.size + 3
    · exact h.2
    · exact absurd (if_neg h) hk
  · obtain ⟨t, h⟩ := h; cases h
  · by_cases h : w.heap.size ≤ k ∧ k < w1.heap.size + 3
    · exact h.1
    · exact absurd (if_neg h) hk
/-- what New leaves -/
def NewSaid (w : World) (T : List ByteArray) (E : List GE) (e : Ending) (w' : World) : Prop :=
  (RightG T.length E ∧ ∃ p lab, e = .returned (.tuple #[.pointer (some ⟨p, 0, none⟩), .int .i64 0]) ∧ GN w' lab p T E ∧ (∀ k, lab k ≠ none → w.heap.size ≤ k) ∧ Below w.heap.size w w') ∨
  (¬ RightG T.length E ∧ e = .returned (.tuple #[.pointer none, .int .i64 2]) ∧ Below w.heap.size w w')
theorem getD_mem {α : Type} {l : List α} {d : α} {i : Nat} (hi : i < l.length) : l.getD i d ∈ l := by
  rw [List.getD_eq_getElem?_getD, List.getElem?_eq_getElem hi]; exact List.getElem_mem hi
theorem take_snocE {E : List GE} {i : Nat} {e : GE} (hi : i < E.length) (he : E.getD i (0, 0, 0) = e) : E.take i ++ [e] = E.take (i + 1) := by
  rw [List.take_succ_eq_append_getElem hi, ← he]; simp [List.getElem?_eq_getElem hi]
theorem right_snoc {n : Nat} {E : List GE} {i : Nat} {a f z : Int} (h : RightG n (E.take i)) (hi : i < E.length) (he : E.getD i (0, 0, 0) = (a, f, z)) (h1 : 0 ≤ a ∧ a < n) (h2 : 0 ≤ z ∧ z < n) : RightG n (E.take (i + 1)) := by
  rw [← take_snocE hi he]
  intro e hm
  rcases List.mem_append.1 hm with hm | hm
  · exact h e hm
  · rw [List.mem_singleton] at hm; subst hm; exact ⟨h1.1, h1.2, h2.1, h2.2⟩
theorem not_right {n : Nat} {E : List GE} {i : Nat} {e : GE} (hi : i < E.length) (he : E.getD i (0, 0, 0) = e) (h : ¬ (0 ≤ e.1 ∧ e.1 < n ∧ 0 ≤ e.2.2 ∧ e.2.2 < n)) : ¬ RightG n E := fun hR => h (hR e (he ▸ getD_mem hi))
set_option maxHeartbeats 4000000 in
set_option maxRecDepth 100000 in
theorem new_walk (A : Option Addr) (c : Nat) (T : List ByteArray) (A2 : Option Addr) (c2 : Nat) (E : List GE) (w : World) (hT : RdT w A T) (hE : RdE w A2 E) (hl : T.length ≤ 1000) (hl2 : E.length ≤ 1000) (hok : ∀ a f z, (a, f, z) ∈ E → ok64 f) :
    Calls Tryz.prog 9 #[.slice A T.length c, .slice A2 E.length c2] w (NewSaid w T E) := by
  have HT := Aside0.mk hT
  have HE := Aside0.mk hE
  have Hl := Aside0.mk (And.intro hl hl2)
  have Hok := Aside0.mk hok
  clear hT hE hl hl2 hok
  have hmm := @run_makeMap Tryz.prog
  go_enter Tryz.func9, Tryz.ntmps9
  go_wp2_with fail
  refine (cloneT_any A c T w HT.out (by have := Hl.out; omega)).mono ?_
  rintro e w1 ⟨v, rfl, r1, r2⟩
  obtain ⟨Av, cv, rfl, -, -⟩ := Kd.R_reads r1
  have hst : ∃ lab, GN (((w1.alloc (.map #[] 0)).alloc (.map #[] 0)).alloc (.cells #[.slice Av T.length cv, .map (some w1.heap.size), .map (some (w1.heap.size + 1))] 50)) lab (w1.heap.size + 1 + 1) T [] ∧ (∀ k, lab k ≠ none → w.heap.size ≤ k) := graph_start w w1 _ T r2 r1
  have hbw : Below w.heap.size w (((w1.alloc (.map #[] 0)).alloc (.map #[] 0)).alloc (.cells #[.slice Av T.length cv, .map (some w1.heap.size), .map (some (w1.heap.size + 1))] 50)) := below_alloc (below_alloc (below_alloc r2 _) _) _
  have Hst := Aside0.mk (And.intro hst hbw)
  clear r1 r2 hst hbw
  go_wp2_with fail
  obtain ⟨p, hp⟩ : ∃ p, w1.heap.size + 1 + 1 = p := ⟨_, rfl⟩
  rw [hp] at Hst ⊢
  generalize ((w1.alloc (.map #[] 0)).alloc (.map #[] 0)).alloc (.cells #[.slice Av T.length cv, .map (some w1.heap.size), .map (some (w1.heap.size + 1))] 50) = W at Hst ⊢
  clear hp
  go_loopw [8, 17] (fun _ I wr => ∃ (i : Nat) (lab : Nat → Option Tag), I = .int .i64 (i : Int) ∧ i ≤ E.length ∧ Aside0 (RightG T.length (E.take i)) ∧ Aside0 (GN wr lab p T (E.take i)) ∧ Aside0 (∀ k, lab k ≠ none → w.heap.size ≤ k) ∧ Aside0 (Below w.heap.size w wr)) (fun _ I _ => E.length - (intOf I).toNat)
  case atStart =>
    obtain ⟨⟨lab, h1, h2⟩, h3⟩ := Hst.out
    exact ⟨0, lab, rfl, Nat.zero_le _, ⟨fun e he => by cases he⟩, ⟨h1⟩, ⟨h2⟩, ⟨h3⟩⟩
  case round =>
    obtain ⟨i, lab, rfl, hi, HRt, HG, HL, HB⟩ := hrel
    by_cases hin : i < E.length
    · have hnb : decide ((i : Int) < (E.length : Int)) = true := decide_eq_true (by omega)
      have hnc : decide (i < E.length) = true := decide_eq_true hin
      obtain ⟨ad, rfl, e0, e1, e2⟩ := (HE.out.below HB.out).at_ i hin
      have i0 : 0 ≤ (i : Int) := by omega
      have i1 : (i : Int) < (E.length : Int) := by omega
      have i2 : (i : Int) ≤ 1000 := by have := Hl.out.2; omega
      obtain ⟨⟨ea, ef, ez⟩, hee⟩ : ∃ e, E.getD i (0, 0, 0) = e := ⟨_, rfl⟩
      rw [hee] at e0 e1 e2
      have Hin := Aside0.mk (And.intro hin hee)
      clear hin hi hee
      replace i0 := eq_true i0
      replace i1 := eq_true i1
      have hal : Below wr.heap.size wr (wr.alloc (.cells #[.int .i64 ea, .int .i64 ef, .int .i64 ez] 44)) := below_alloc (Below.refl _ _) _
      have HG2 := Aside0.mk (GX.below HG.out hal)
      have HB2 := Aside0.mk (below_then HB.out HB.out.size hal)
      have Hs2 : Aside0 (wr.heap.size < (wr.alloc (.cells #[.int .i64 ea, .int .i64 ef, .int .i64 ez] 44)).heap.size) := ⟨by simp⟩
      have b0 : (wr.alloc (.cells #[.int .i64 ea, .int .i64 ef, .int .i64 ez] 44)).cell? ⟨wr.heap.size, 0, none⟩ = some (.int .i64 ea) := blk_cell (heap_alloc_new _ _) 0
      have b1 : (wr.alloc (.cells #[.int .i64 ea, .int .i64 ef, .int .i64 ez] 44)).cell? ⟨wr.heap.size, 1, none⟩ = some (.int .i64 ef) := blk_cell (heap_alloc_new _ _) 1
      have b2 : (wr.alloc (.cells #[.int .i64 ea, .int .i64 ef, .int .i64 ez] 44)).cell? ⟨wr.heap.size, 2, none⟩ = some (.int .i64 ez) := blk_cell (heap_alloc_new _ _) 2
      clear hal
      go_wp2_with fail
      generalize wr.alloc (.cells #[.int .i64 ea, .int .i64 ef, .int .i64 ez] 44) = W2 at *
      refine (there_any p lab T _ ea W2 HG2.out).mono ?_
      rintro e w' ⟨rfl, rfl⟩
      by_cases h1 : 0 ≤ ea ∧ ea < T.length
      · have d1 := decide_eq_true h1
        rw [d1]
        clear d1
        have H1 := Aside0.mk h1
        clear h1
        go_wp2_with fail
        refine (there_any p lab T _ ez W2 HG2.out).mono ?_
        rintro e w' ⟨rfl, rfl⟩
        by_cases h2 : 0 ≤ ez ∧ ez < T.length
        · have d2 := decide_eq_true h2
          rw [d2]
          clear d2
          have H2 := Aside0.mk h2
          clear h2
          go_wp2_with fail
          refine (put_any p lab T _ ea ef ez W2 HG2.out (ok64_of (by have := H1.out; omega) (by have := H1.out; have := Hl.out; omega)) (Hok.out _ _ _ (by rw [← Hin.out.2]; exact getD_mem Hin.out.1)) (by have := H2.out; have := Hl.out; omega) (by have := Hl.out; simp; omega)).mono ?_
          rintro e w2 ⟨rfl, lab', r1, r2, r3⟩
          rw [take_snocE Hin.out.1 Hin.out.2] at r1
          have HR' := Aside0.mk (right_snoc HRt.out Hin.out.1 Hin.out.2 H1.out H2.out)
          have HG' := Aside0.mk r1
          have HL' := Aside0.mk (show ∀ k, lab' k ≠ none → w.heap.size ≤ k from fun k hk => (r2 k hk).elim (HL.out k) (fun h => by have := HB2.out.size; omega))
          have HB' := Aside0.mk (show Below w.heap.size w w2 from ((Chg.of_below HB2.out (fun _ => False)).then_ r3 (fun k hk => .inr (HL.out k hk))).below (Nat.le_refl _) (fun k hk => hk.elim))
          clear r1 r2 r3
          go_wp2_with fail
          go_roundw
          case rel => exact ⟨i + 1, lab', by go_num, Hin.out.1, HR', HG', HL', HB'⟩
          case measure => have := Hin.out.1; simp [intOf]; omega
        · have d2 := decide_eq_false h2
          rw [d2]
          clear d2
          have H2 := Aside0.mk h2
          clear h2
          go_wp2_with fail
          go_ret2
          exact .inr ⟨not_right Hin.out.1 Hin.out.2 (fun h => H2.out ⟨h.2.2.1, h.2.2.2⟩), rfl, HB2.out⟩
      · have d1 := decide_eq_false h1
        rw [d1]
        clear d1
        have H1 := Aside0.mk h1
        clear h1
        go_wp2_with fail
        go_ret2
        exact .inr ⟨not_right Hin.out.1 Hin.out.2 (fun h => H1.out ⟨h.1, h.2.1⟩), rfl, HB2.out⟩
    · have hnb : decide ((i : Int) < (E.length : Int)) = false := decide_eq_false (by omega)
      have hnc : decide (i < E.length) = false := decide_eq_false hin
      obtain rfl : i = E.length := by omega
      rw [List.take_length] at HRt HG
      clear hin hi
      go_wp2_with fail
      go_ret2
      exact .inl ⟨HRt.out, p, lab, rfl, HG.out, HL.out, HB.out⟩
/-- New -/
theorem new_any (A : Option Addr) (c : Nat) (T : List ByteArray) (A2 : Option Addr) (c2 : Nat) (E : List GE) (w : World) (hT : RdT w A T) (hE : RdE w A2 E) (hl : T.length ≤ 1000) (hl2 : E.length ≤ 1000) (hok : ∀ a f z, (a, f, z) ∈ E → ok64 f) (hR : RightG T.length E) :
    Calls Tryz.prog 9 #[.slice A T.length c, .slice A2 E.length c2] w fun e w' => ∃ p lab, e = .returned (.tuple #[.pointer (some ⟨p, 0, none⟩), .int .i64 0]) ∧ GN w' lab p T E ∧ Below w.heap.size w w' :=
  (new_walk A c T A2 c2 E w hT hE hl hl2 hok).mono fun e w' h => h.elim (fun ⟨_, p, lab, h1, h2, h3, h4⟩ => ⟨p, lab, h1, h2, h4⟩) (fun h => absurd hR h.1)
theorem new_bad (A : Option Addr) (c : Nat) (T : List ByteArray) (A2 : Option Addr) (c2 : Nat) (E : List GE) (w : World) (hT : RdT w A T) (hE : RdE w A2 E) (hl : T.length ≤ 1000) (hl2 : E.length ≤ 1000) (hok : ∀ a f z, (a, f, z) ∈ E → ok64 f) (hR : ¬ RightG T.length E) :
    Calls Tryz.prog 9 #[.slice A T.length c, .slice A2 E.length c2] w fun e w' => e = .returned (.tuple #[.pointer none, .int .i64 2]) ∧ Below w.heap.size w w' :=
  (new_walk A c T A2 c2 E w hT hE hl hl2 hok).mono fun e w' h => h.elim (fun h => absurd h.1 hR) (fun h => ⟨h.2.1, h.2.2⟩)
end Go.Proofs.YtfgonclaiphoeaaGreatDoor.Gr
