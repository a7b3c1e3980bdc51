/- union.Union: what it holds; there, Count, root. -/
import Derived.Test.YtmaoadlighjkpaaMap
import Derived.Test.YtmaoadlighjkpaaQd
import Derived.BigRegion
import Derived.Deep.RegionHeld
namespace Go.Proofs.Ytmaoadlighjkpaa.Un
open Go.RowKit Go.Proofs.YtmaoadlighjkpaaW.PrintWords Go.Proofs.YtmaoadlighjkpaaW.PrintLast Go.Proofs.YtmaoadlighjkpaaW.PrintMore
open Go.Proofs.Ytmaoadlighjkpaa.Base Go.Proofs.Ytmaoadlighjkpaa.Map Go.Proofs.Ytmaoadlighjkpaa.Qu
set_option linter.unusedVariables false

/-- a row of whole numbers in a block of its own -/
abbrev Row (w : World) (v : Value) (l : List Int) : Prop := Kd.R (Kd.int .i64) 3 w 0 (fun k => v.ownBlock = some k) v l

/-- The union in block p: who is above whom (U), sizes (S), heads (H), how many classes (c). F: its blocks. -/
structure UO (w : World) (F : Nat → Prop) (p : Nat) (vU vS vH : Value) (U S H : List Int) (c : Int) : Prop where
  blk : w.heap[p]? = some (.cells #[vU, vS, vH, .int .i64 c] 129 (0, 0))
  u : Row w vU U
  s : Row w vS S
  h : Row w vH H
  dU : ∀ k, vU.ownBlock = some k → vS.ownBlock ≠ some k ∧ vH.ownBlock ≠ some k ∧ F k
  dS : ∀ k, vS.ownBlock = some k → vH.ownBlock ≠ some k ∧ F k
  dH : ∀ k, vH.ownBlock = some k → F k
  pF : F p
  lS : S.length = U.length
  lH : H.length = U.length

theorem rd_nat (l : List Int) (i : Nat) (h : i < l.length) : rd l i = l[i] := by simp [rd, h]
theorem rd_set_same (l : List Int) (i : Nat) (x : Int) (h : i < l.length) : rd (l.set i x) i = x := by simp [rd, h]
theorem rd_set_ne (l : List Int) (i j : Nat) (x : Int) (h : j ≠ i) : rd (l.set i x) j = rd l j := by
  unfold rd
  simp only [Int.toNat_natCast, List.getD_eq_getElem?_getD]
  rw [List.getElem?_set_ne (Ne.symm h)]

section
variable {w w1 : World} {F F' : Nat → Prop} {p : Nat} {vU vS vH v : Value} {U S H l : List Int} {c : Int}
theorem Row.slice (h : Row w v l) (hl : 0 < l.length) : ∃ g cap, v = .slice (some ⟨g, 0, none⟩) l.length cap := by
  obtain ⟨g, cap, he, _⟩ := Kd.R_form h hl
  exact ⟨g, cap, he⟩
theorem Row.cell {g n cap : Nat} (h : Row w (.slice (some ⟨g, 0, none⟩) n cap) l) (i : Nat) (hi : i < l.length) : w.cell? ⟨g, i, none⟩ = some (.int .i64 (rd l i)) ∧ w.frozen? ⟨g, i, none⟩ = false := by
  have hn : n = l.length := (Kd.R_reads' h).1
  subst hn
  have := Kd.R_cell (0 : Int) h (i : Int) (by omega) (by omega)
  exact this
theorem Row.put {g n cap : Nat} (h : Row w (.slice (some ⟨g, 0, none⟩) n cap) l) (i : Nat) (x : Int) : Row (w.setCell ⟨g, i, none⟩ (.int .i64 x)) (.slice (some ⟨g, 0, none⟩) n cap) (l.set i x) := by
  have hn : n = l.length := (Kd.R_reads' h).1
  subst hn
  exact (Kd.R_put h (i : Int) x).1
theorem Row.far (h : Row w v l) {g : Nat} (hg : v.ownBlock ≠ some g) (i : Nat) (x : Value) : Row (w.setCell ⟨g, i, none⟩ x) v l :=
  Kd.R_far h (p := ⟨g, i, none⟩) (fun k hk e => hg (hk.trans (by rw [show k = g from e]))) x
theorem Row.blk (h : Row w v l) {k : Nat} (hk : v.ownBlock = some k) : ∃ cells, w.heap[k]? = some (.cells cells 3 (0, 0)) := by
  obtain ⟨inner, ho⟩ := Kd.R_own h
  exact own_typed ho k hk
theorem UO.ne (h : UO w F p vU vS vH U S H c) (hr : Row w v l) : v.ownBlock ≠ some p := fun e => by
  obtain ⟨cells, hc⟩ := hr.blk e
  rw [h.blk] at hc; cases hc
theorem blk_set_far {w : World} {b g i : Nat} {o : Obj} (h : w.heap[b]? = some o) (hn : b ≠ g) (x : Value) : (w.setCell ⟨g, i, none⟩ x).heap[b]? = some o := (Below.heap_setCell w ⟨g, i, none⟩ x b hn).trans h
theorem UO.setU {g n cap : Nat} (h : UO w F p (.slice (some ⟨g, 0, none⟩) n cap) vS vH U S H c) (i : Nat) (x : Int) : UO (w.setCell ⟨g, i, none⟩ (.int .i64 x)) F p (.slice (some ⟨g, 0, none⟩) n cap) vS vH (U.set i x) S H c := by
  have ho : (Value.slice (some ⟨g, 0, none⟩) n cap).ownBlock = some g := by simp [Value.ownBlock]
  have hd := h.dU g ho
  exact ⟨blk_set_far h.blk (fun e => h.ne h.u (ho.trans (by rw [e]))) _, h.u.put i x, h.s.far hd.1 i _, h.h.far hd.2.1 i _, h.dU, h.dS, h.dH, h.pF, by rw [List.length_set]; exact h.lS, by rw [List.length_set]; exact h.lH⟩
theorem UO.setS {g n cap : Nat} (h : UO w F p vU (.slice (some ⟨g, 0, none⟩) n cap) vH U S H c) (i : Nat) (x : Int) : UO (w.setCell ⟨g, i, none⟩ (.int .i64 x)) F p vU (.slice (some ⟨g, 0, none⟩) n cap) vH U (S.set i x) H c := by
  have ho : (Value.slice (some ⟨g, 0, none⟩) n cap).ownBlock = some g := by simp [Value.ownBlock]
  have hd := h.dS g ho
  exact ⟨blk_set_far h.blk (fun e => h.ne h.s (ho.trans (by rw [e]))) _, h.u.far (fun e => (h.dU g e).1 ho) i _, h.s.put i x, h.h.far hd.1 i _, h.dU, h.dS, h.dH, h.pF, by rw [List.length_set]; exact h.lS, h.lH⟩
theorem UO.setH {g n cap : Nat} (h : UO w F p vU vS (.slice (some ⟨g, 0, none⟩) n cap) U S H c) (i : Nat) (x : Int) : UO (w.setCell ⟨g, i, none⟩ (.int .i64 x)) F p vU vS (.slice (some ⟨g, 0, none⟩) n cap) U S (H.set i x) c := by
  have ho : (Value.slice (some ⟨g, 0, none⟩) n cap).ownBlock = some g := by simp [Value.ownBlock]
  exact ⟨blk_set_far h.blk (fun e => h.ne h.h (ho.trans (by rw [e]))) _, h.u.far (fun e => (h.dU g e).2.1 ho) i _, h.s.far (fun e => (h.dS g e).1 ho) i _, h.h.put i x, h.dU, h.dS, h.dH, h.pF, h.lS, by rw [List.length_set]; exact h.lH⟩
theorem UO.setC (h : UO w F p vU vS vH U S H c) (x : Int) : UO (w.setCell ⟨p, 3, none⟩ (.int .i64 x)) F p vU vS vH U S H x :=
  ⟨blk_set h.blk 3 _, h.u.far (h.ne h.u) 3 _, h.s.far (h.ne h.s) 3 _, h.h.far (h.ne h.h) 3 _, h.dU, h.dS, h.dH, h.pF, h.lS, h.lH⟩
theorem UO.chg {G : Nat → Prop} (h : UO w F p vU vS vH U S H c) (hC : Chg G w w1) (hd : ∀ k, F k → ¬ G k) : UO w1 F p vU vS vH U S H c :=
  ⟨hC.blk h.blk (hd _ h.pF), Kd.R_step h.u (fun k hk hlt => hC.block k hlt (hd k (h.dU k hk).2.2)), Kd.R_step h.s (fun k hk hlt => hC.block k hlt (hd k (h.dS k hk).2)), Kd.R_step h.h (fun k hk hlt => hC.block k hlt (hd k (h.dH k hk))), h.dU, h.dS, h.dH, h.pF, h.lS, h.lH⟩
theorem UO.below (h : UO w F p vU vS vH U S H c) (hb : Below w.heap.size w w1) : UO w1 F p vU vS vH U S H c := h.chg (Chg.of_below hb (fun _ => False)) (fun _ _ hk => hk)
theorem UO.mono (h : UO w F p vU vS vH U S H c) (hF : ∀ k, F k → F' k) : UO w F' p vU vS vH U S H c :=
  ⟨h.blk, h.u, h.s, h.h, fun k hk => ⟨(h.dU k hk).1, (h.dU k hk).2.1, hF k (h.dU k hk).2.2⟩, fun k hk => ⟨(h.dS k hk).1, hF k (h.dS k hk).2⟩, fun k hk => hF k (h.dH k hk), hF p h.pF, h.lS, h.lH⟩
end

/-- Who is above whom: a forest with the roots R; d counts down. -/
structure Forest (U : List Int) (R d : Nat → Nat) : Prop where
  at_ : ∀ i, i < U.length → ∃ j : Nat, rd U i = (j : Int) ∧ j < U.length ∧ R j = R i ∧ R i < U.length ∧ rd U (R i) = (R i : Int) ∧ (j = i → R i = i) ∧ (j ≠ i → d j < d i)
theorem Forest.press {U : List Int} {R d : Nat → Nat} (h : Forest U R d) {n m k : Nat} (hn : n < U.length) (hm : rd U n = (m : Int)) (hk : rd U m = (k : Int)) (hne : m ≠ n) :
    Forest (U.set n (k : Int)) R d ∧ k < U.length ∧ R k = R n ∧ d k < d n := by
  obtain ⟨m', e1, m1, m2, m3, m4, m5, m6⟩ := h.at_ n hn
  obtain rfl : m' = m := by omega
  obtain ⟨k', e2, k1, k2, k3, k4, k5, k6⟩ := h.at_ m' m1
  obtain rfl : k' = k := by omega
  have hd : d k' < d n := by
    have := m6 hne
    by_cases e : k' = m'
    · rw [e]; exact this
    · have := k6 e; omega
  have hkn : k' ≠ n := fun e => by rw [e] at hd; omega
  refine ⟨⟨fun i hi => ?_⟩, k1, k2.trans m2, hd⟩
  rw [List.length_set] at hi ⊢
  have hroot : ∀ i, i < U.length → R i ≠ n := fun i hi e => by
    obtain ⟨j, _, _, _, _, r4, _, _⟩ := h.at_ i hi
    rw [e, e1] at r4
    omega
  by_cases hin : i = n
  · subst hin
    refine ⟨k', rd_set_same U i _ hi, k1, k2.trans m2, m3, ?_, fun e => absurd e hkn, fun _ => hd⟩
    rw [rd_set_ne U i _ _ (hroot i hi)]; exact m4
  · obtain ⟨j, r1, r2, r3, r4, r5, r6, r7⟩ := h.at_ i hi
    refine ⟨j, by rw [rd_set_ne U n i _ hin]; exact r1, r2, r3, r4, ?_, r6, r7⟩
    rw [rd_set_ne U n _ _ (hroot i hi)]; exact r5

set_option maxHeartbeats 1000000 in
set_option maxRecDepth 100000 in
theorem there_any (p : Nat) (F : Nat → Prop) (vU vS vH : Value) (U S H : List Int) (c n : Int) (w : World) (h : UO w F p vU vS vH U S H c) :
    Calls Try.prog 79 #[.pointer (some ⟨p, 0, none⟩), .int .i64 n] w fun e w' => e = .returned (.bool (decide (0 ≤ n ∧ n < U.length))) ∧ w = w' := by
  obtain ⟨A, cU, rfl, hc, hr⟩ := Kd.R_reads h.u
  have c0 := blk_cell h.blk 0
  clear h hr
  by_cases h0 : 0 ≤ n
  · by_cases h1 : n < (U.length : Int)
    · rw [decide_eq_true (⟨h0, h1⟩ : 0 ≤ n ∧ n < (U.length : Int))]
      go_enter Try.func79, Try.ntmps79
      go_wp2
      go_ret
      exact ⟨rfl, rfl⟩
    · rw [decide_eq_false (fun h : 0 ≤ n ∧ n < (U.length : Int) => h1 h.2)]
      go_enter Try.func79, Try.ntmps79
      go_wp2
      go_ret
      exact ⟨rfl, rfl⟩
  · rw [decide_eq_false (fun h : 0 ≤ n ∧ n < (U.length : Int) => h0 h.1)]
    go_enter Try.func79, Try.ntmps79
    go_wp2
    go_ret
    exact ⟨rfl, rfl⟩

set_option maxHeartbeats 1000000 in
set_option maxRecDepth 100000 in
theorem count_any (p : Nat) (F : Nat → Prop) (vU vS vH : Value) (U S H : List Int) (c : Int) (w : World) (h : UO w F p vU vS vH U S H c) :
    Calls Try.prog 50 #[.pointer (some ⟨p, 0, none⟩)] w fun e w' => e = .returned (.int .i64 c) ∧ w = w' := by
  have c3 := blk_cell h.blk 3
  clear h
  go_enter Try.func50, Try.ntmps50
  go_wp2
  go_ret
  exact ⟨rfl, rfl⟩

set_option maxHeartbeats 2000000 in
set_option maxRecDepth 100000 in
theorem root_any (p : Nat) (F : Nat → Prop) (vU vS vH : Value) (U S H : List Int) (c : Int) (R d : Nat → Nat) (n : Nat) (w : World) (h : UO w F p vU vS vH U S H c) (hf : Forest U R d) (hn : n < U.length) :
    Calls Try.prog 80 #[.pointer (some ⟨p, 0, none⟩), .int .i64 (n : Int)] w fun e w' => e = .returned (.int .i64 (R n : Int)) ∧ ∃ U', UO w' F p vU vS vH U' S H c ∧ Forest U' R d ∧ U'.length = U.length ∧ Chg F w w' := by
  obtain ⟨g, cap, rfl⟩ := h.u.slice (by omega)
  have hF : F g := (h.dU g (by simp [Value.ownBlock])).2.2
  obtain ⟨N, hN⟩ : ∃ N, U.length = N := ⟨_, rfl⟩
  rw [hN] at h hn ⊢
  obtain ⟨rn, hrn⟩ : ∃ rn, R n = rn := ⟨_, rfl⟩
  rw [hrn]
  have Hrn := Aside0.mk hrn
  clear hrn
  go_enter Try.func80, Try.ntmps80
  go_wp2_with fail
  go_loopw [1] (fun I wr => ∃ (m : Nat) (U' : List Int), I = .int .i64 (m : Int) ∧ m < N ∧ R m = R n ∧ UO wr F p (.slice (some ⟨g, 0, none⟩) N cap) vS vH U' S H c ∧ Forest U' R d ∧ U'.length = N ∧ Chg F w wr) (fun I _ => d (intOf I).toNat)
  case atStart => exact ⟨n, U, rfl, hn, rfl, h, hf, hN, Chg.refl _ _⟩
  case round =>
    obtain ⟨m, U', rfl, hm, hR, h1, hf1, hN1, hC⟩ := hrel
    have hm' : m < U'.length := by omega
    obtain ⟨k, e1, k1, k2, k3, k4, k5, k6⟩ := hf1.at_ m hm'
    obtain ⟨k', e2, _⟩ := hf1.at_ k k1
    have c0 := blk_cell h1.blk 0
    have c1 := (h1.u.cell m hm').1
    have z1 := (h1.u.cell m hm').2
    have c2 := (h1.u.cell k k1).1
    rw [e1] at c1
    rw [e2] at c2
    have i0 : (0 : Int) ≤ (m : Int) := by omega
    have i1 : (m : Int) < (N : Int) := by omega
    have i2 : (0 : Int) ≤ (k : Int) := by omega
    have i3 : (k : Int) < (N : Int) := by omega
    have i4 : (0 : Int) ≤ (k' : Int) := by omega
    by_cases hkm : k = m
    · subst hkm
      have hend := Aside0.mk (show (k : Int) = (rn : Int) by rw [← Hrn.out, ← hR, k5 rfl])
      have hbn : ((k : Int) != (k : Int)) = false := by simp
      go_wp2
      go_ret
      rw [hend.out]
      exact ⟨rfl, U', h1, hf1, hN1, hC⟩
    · have hkm' : (k : Int) ≠ (m : Int) := by omega
      have hbn : ((k : Int) != (m : Int)) = true := by simpa using hkm'
      have hpg : p ≠ g := fun e => h1.ne h1.u (by simp [Value.ownBlock, e])
      have d0 : ∀ x, (wr.setCell ⟨g, m, none⟩ x).cell? ⟨p, 0, none⟩ = some (.slice (some ⟨g, 0, none⟩) N cap) := fun x => (World.cell?_setCell_far wr ⟨g, m, none⟩ ⟨p, 0, none⟩ x (fun e => hpg e.symm)).trans c0
      obtain ⟨p1, p2, p3, p4⟩ := hf1.press hm' e1 e2 hkm
      have Hp := Aside0.mk p1
      have H1 := Aside0.mk h1
      clear p1 h1 hf1 hf h
      go_wp2_with fail
      go_region
      all_goals (go_wp2_with fail; go_roundw)
      case rel => exact ⟨k', _, by go_num, by omega, by rw [p3, hR], (H1.out.setU m _).below (below_drew (Below.refl _ _)), Hp.out, by rw [List.length_set]; exact hN1, (hC.then_ (Chg.setCell _ (p := ⟨g, m, none⟩) hF _) (fun k hk => .inl hk)).andBelow (below_drew (Below.refl _ _))⟩
      case measure => simp [intOf]; omega
end Go.Proofs.Ytmaoadlighjkpaa.Un
