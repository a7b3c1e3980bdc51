/- graph.Reach: the walk. -/
import Derived.Test.YtfgonclaiphoeaaGreatDoorGi
namespace Go.Proofs.YtfgonclaiphoeaaGreatDoor.Gr
set_option linter.unusedVariables false
open Go.RowKit Go.Proofs.YtfgonclaiphoeaaGreatDoorW.PrintWords Go.Proofs.YtfgonclaiphoeaaGreatDoorW.PrintLast Go.Proofs.YtfgonclaiphoeaaGreatDoorW.PrintMore Go.Maps
open Go.Proofs.YtfgonclaiphoeaaGreatDoor.Base Go.Proofs.YtfgonclaiphoeaaGreatDoor.Map Go.Proofs.YtfgonclaiphoeaaGreatDoor.Sl Go.Proofs.YtfgonclaiphoeaaGreatDoor.Ow Go.Proofs.YtfgonclaiphoeaaGreatDoor.Se

/-- the set and the queue of Reach lie apart, both made by the call -/
structure RSep (w wr : World) (F G : Nat → Prop) : Prop where
  f : ∀ k, F k → w.heap.size ≤ k ∧ k < wr.heap.size
  g : ∀ k, G k → w.heap.size ≤ k ∧ k < wr.heap.size
  d : ∀ k, F k → ¬ G k
  b : Below w.heap.size w wr
theorem RSep.below {w wr w1 : World} {F G : Nat → Prop} (h : RSep w wr F G) (hb : Below wr.heap.size wr w1) : RSep w w1 F G :=
  ⟨fun k hk => by have := h.f k hk; have := hb.size; omega, fun k hk => by have := h.g k hk; have := hb.size; omega, h.d, below_then h.b h.b.size hb⟩
theorem RSep.setF {w wr w1 : World} {F G : Nat → Prop} (h : RSep w wr F G) (hC : Chg F wr w1) : RSep w w1 (ext F wr w1) G := by
  have s0 := h.b.size
  have s1 := hC.size
  exact ⟨fun k hk => hk.elim (fun hk => by have := h.f k hk; omega) (fun hk => by have := hk.1; have := hk.2; omega), fun k hk => by have := h.g k hk; omega, fun k hk hg => hk.elim (fun hk => h.d k hk hg) (fun hk => by have := h.g k hg; have := hk.1; omega),
    ((Chg.of_below h.b (fun _ => False)).then_ hC (fun k hk => .inr (h.f k hk).1)).below (Nat.le_refl _) (fun k hk => hk.elim)⟩
theorem RSep.setG {w wr w1 : World} {F G : Nat → Prop} (h : RSep w wr F G) (hC : Chg G wr w1) : RSep w w1 F (ext G wr w1) := by
  have s0 := h.b.size
  have s1 := hC.size
  exact ⟨fun k hk => by have := h.f k hk; omega, fun k hk => hk.elim (fun hk => by have := h.g k hk; omega) (fun hk => by have := hk.1; have := hk.2; omega), fun k hk hg => hg.elim (fun hg => h.d k hk hg) (fun hg => by have := h.f k hk; have := hg.1; omega),
    ((Chg.of_below h.b (fun _ => False)).then_ hC (fun k hk => .inr (h.g k hk).1)).below (Nat.le_refl _) (fun k hk => hk.elim)⟩
theorem thereA {w : World} {p : Nat} {T : List ByteArray} {E : List GE} (h : GA w p T E) (x : Int) :
    Calls Tryz.prog 23 #[.pointer (some ⟨p, 0, none⟩), .int .i64 x] w fun e w' => e = .returned (.bool (decide (0 ≤ x ∧ x < T.length))) ∧ w = w' := by
  obtain ⟨lab, h⟩ := h; exact there_any p lab T E x w h
set_option maxHeartbeats 8000000 in
set_option maxRecDepth 100000 in
theorem reach_any (p : Nat) (T : List ByteArray) (E : List GE) (u : Value) (os : List Int) (w : World) (h : GA w p T E) (hu : RdV w u os) (hT : TZ w) (hE : RightG T.length E) (hf : ∀ a f z, (a, f, z) ∈ E → ok64 f) (ho : ∀ x ∈ os, ok64 x) (hl : os.length ≤ 1000 ∧ T.length ≤ 1000 ∧ E.length ≤ 1000) :
    Calls Tryz.prog 11 #[.pointer (some ⟨p, 0, none⟩), u] w fun e w' => ∃ v, e = .returned v ∧ OwI w' w.heap.size v (reachG T.length E os) ∧ Below w.heap.size w w' := by
  have H := Aside0.mk h
  have HT := Aside0.mk hT
  have HE := Aside0.mk (And.intro hE (And.intro hf ho))
  have Hl := Aside0.mk hl
  have HU := Aside0.mk hu
  obtain ⟨D, hD⟩ : ∃ D, E.length * E.length = D := ⟨_, rfl⟩
  have hD2 : D ≤ 1000000 := by rw [← hD]; exact Nat.mul_le_mul hl.2.2 hl.2.2
  have hnD : T.length * D ≤ 1000000000 := Nat.mul_le_mul hl.2.1 hD2
  have HD := Aside0.mk (And.intro hD (And.intro hD2 hnD))
  clear h hT hE hf ho hl hu hD hD2 hnD
  go_enter Tryz.func11, Tryz.ntmps11
  go_wp2_with fail
  refine (of_any w).mono ?_
  rintro e w1 ⟨q, rfl, r1, r2⟩
  have H1 := Aside0.mk r1
  have HB1 := Aside0.mk r2
  clear r1 r2
  go_wp2_with fail
  refine (clone_any u os w1 (HU.out.below HB1.out) (by have := Hl.out; omega)).mono ?_
  rintro e w2 ⟨v2, rfl, r1, r2⟩
  have hS : RSep w w2 (Ow.new w w1) (Ow.new w1 w2) := by
    have s1 := HB1.out.size
    have s2 := r2.size
    exact ⟨fun k hk => by have := hk.1; have := hk.2; omega, fun k hk => by have := hk.1; have := hk.2; omega, fun k hk hg => by have := hk.2; have := hg.1; omega, bel_trans HB1.out r2⟩
  have HS := Aside0.mk hS
  have H2 := Aside0.mk (H1.out.below r2)
  have HQ := Aside0.mk (OwF.toQ (OwF.of_own r1 (F := Ow.new w1 w2) (fun k h1 h2 => ⟨h1, h2⟩)))
  clear r1 r2 hS
  go_wp2_with fail
  go_loopg [6, 7, 9] (os.length + T.length * D) (fun kq V _ _ wr => ∃ (todo l : List Int) (F G : Nat → Prop), Aside0 (SetF wr F q l) ∧ Aside0 (OwQ wr G V todo) ∧ Aside0 (RInv T.length E os todo l) ∧ Aside0 (kq = todo.length + (T.length - l.length) * D ∧ kq ≤ os.length + T.length * D) ∧ Aside0 (RSep w wr F G))
  case atStart => exact ⟨os, [], _, _, H2, HQ, ⟨RInv.start HE.out.2.2⟩, ⟨by simp, Nat.le_refl _⟩, HS⟩
  case round =>
    obtain ⟨todo, l, F, G, HSet, HQ2, HI, HK, HSep⟩ := hrel
    obtain ⟨A, c, hv, hc, hr⟩ := HQ2.out.toV
    subst hv
    cases todo with
    | nil =>
      clear hc hr
      go_wp2_with fail
      refine (list_any q F l wr HSet.out (HT.out.below HSep.out.b)).mono ?_
      rintro e w3 ⟨v, rfl, r1, r2⟩
      have HO := Aside0.mk (r1.lower HSep.out.b.size)
      have HB' := Aside0.mk (bel_trans HSep.out.b r2)
      clear r1 r2
      go_wp2_with fail
      go_ret
      exact ⟨_, rfl, by rw [← HI.out.done]; exact HO.out, HB'.out⟩
    | cons o t =>
      obtain ⟨m, hm⟩ : ∃ m, (o :: t).length = m := ⟨_, rfl⟩
      have hm1 : t.length = m - 1 := by rw [← hm]; simp
      obtain ⟨ad, rfl, hx⟩ := hr.at_ 0 (by omega) (by simp)
      have hx : wr.cell? ad = some (.int .i64 o) := by simpa [rd, Addr.add] using hx
      have hm0 : 1 ≤ m := by rw [← hm]; simp
      obtain ⟨A', hcut, hQ⟩ := cut_one (some ad) m c hm0
      rw [hm] at HQ2
      have HQ3 := Aside0.mk (hQ wr G (o :: t) hm HQ2.out)
      have HM := Aside0.mk (And.intro hm hm1)
      have m0 : 0 < m := by omega
      have m1 : decide ((m : Int) > 0) = true := decide_eq_true (by omega)
      have m2 : (0 : Int) < (m : Int) := by omega
      have m3 : decide ((0 : Int) < (m : Int)) = true := decide_eq_true m2
      have m4 : decide (0 < m) = true := decide_eq_true m0
      rw [hm]
      clear hc hr hQ hm hm1
      go_wp2_with fail
      refine (thereA (H.out.below HSep.out.b) o).mono ?_
      rintro e w' ⟨rfl, rfl⟩
      by_cases ho : 0 ≤ o ∧ o < T.length
      · have d1 := decide_eq_true ho
        rw [d1]
        have Ho := Aside0.mk ho
        clear d1 ho
        go_wp2_with fail
        refine (add_any q F l o wr HSet.out).mono ?_
        rintro e w4 ⟨rfl, r1, r2⟩
        have HQ4 := Aside0.mk (HQ3.out.chg r2 (fun k hk hf => HSep.out.d k hf hk))
        have HS4 := Aside0.mk (HSep.out.setF r2)
        have HF4 := Aside0.mk r1
        clear r1 r2
        by_cases hol : o ∈ l
        · have d2 : addB l o = false := by unfold addB; rw [decide_eq_true hol]; simp
          have d3 : addL l o = l := by unfold addL; split; exact ins_old hol; rfl
          rw [d3] at HF4
          rw [d2]
          have HI' := Aside0.mk (HI.out.old hol)
          clear d2 d3 hol
          go_wp2_with fail
          go_roundg (t.length + (T.length - l.length) * D)
          case measure => have := HK.out.1; have h2 := HM.out.1; simp only [List.length_cons] at this; omega
          case rel => exact ⟨t, l, _, _, HF4, HQ4, HI', ⟨rfl, by have := HK.out; simp only [List.length_cons] at this; omega⟩, HS4⟩
        · have hok : 0 ≤ o ∧ o < 1048576 := by have := Ho.out; have := Hl.out; omega
          have d2 : addB l o = true := by unfold addB; rw [decide_eq_true hok, decide_eq_false hol]; rfl
          have d3 : addL l o = ins l o := if_pos hok
          rw [d3] at HF4
          rw [d2]
          have HI' := Aside0.mk (HI.out.new HE.out.1 (by have := Hl.out; omega) Ho.out)
          have HP' := Aside0.mk (pot_new HI.out Ho.out hol D (by rw [← HD.out.1]; exact pushed_len E o _))
          obtain ⟨mb, hby⟩ := H.out.byW
          obtain ⟨vf, hvf, hrf⟩ := hby o (ok64_of (by omega) (by omega))
          have Hvf := Aside0.mk hvf
          have Hrf := Aside0.mk hrf
          obtain ⟨c2, hlk⟩ := hvf w4 HS4.out.b
          obtain ⟨Af, cf, rfl, -, -⟩ := hrf
          clear d2 d3 hol hok hby hvf
          go_wp2_with fail
          generalize Ow.ext F wr w4 = F4 at HF4 HS4
          have Hfl := Aside0.mk (show (fieldsG E [o]).length ≤ 1000 from Nat.le_trans (fields_len E [o]) Hl.out.2.2)
          go_loopw [6, 9, 38] (fun V _ J w5 => ∃ (j : Nat) (G2 : Nat → Prop), J = .int .i64 (j : Int) ∧ j ≤ (fieldsG E [o]).length ∧ Aside0 (SetF w5 F4 q (ins l o)) ∧ Aside0 (OwQ w5 G2 V (t ++ pushed E o j)) ∧ Aside0 (RSep w w5 F4 G2)) (fun _ _ J _ => (fieldsG E [o]).length - (intOf J).toNat)
          case atStart => exact ⟨0, G, rfl, Nat.zero_le _, HF4, ⟨by have := HQ4.out; simpa [pushed] using this⟩, HS4⟩
          case round =>
            clear HF4 HS4 HQ4 hlk c2
            obtain ⟨j, G2, rfl, hj, HF4, HQ4, HS4⟩ := hrel
            by_cases hin : j < (fieldsG E [o]).length
            · have hnb : decide ((j : Int) < ((fieldsG E [o]).length : Int)) = true := decide_eq_true (by omega)
              have hnc : decide (j < (fieldsG E [o]).length) = true := decide_eq_true hin
              obtain ⟨Ag, cg, eg, -, hrg⟩ := Hrf.out.below HS4.out.b
              obtain ⟨rfl, rfl⟩ : Af = Ag ∧ cf = cg := by cases eg; exact ⟨rfl, rfl⟩
              obtain ⟨af, rfl, hx5⟩ := hrg.at_ (j : Int) (by omega) (by omega)
              rw [Int.toNat_natCast] at hx5
              have j0 : 0 ≤ (j : Int) := by omega
              have j1 : (j : Int) < ((fieldsG E [o]).length : Int) := by omega
              have j2 : (j : Int) ≤ 1000 := by have := Hfl.out; omega
              have hx2 : rd (fieldsG E [o]) (j : Int) = (fieldsG E [o]).getD j 0 := by simp [rd]
              have hsn := pushed_snoc E o j hin
              have hmem : (fieldsG E [o]).getD j 0 ∈ fieldsG E [o] := getD_mem hin
              obtain ⟨f, hff⟩ : ∃ f, (fieldsG E [o]).getD j 0 = f := ⟨_, rfl⟩
              rw [hx2, hff] at hx5
              rw [hff] at hsn hmem
              have hf64 : ok64 f := by
                obtain ⟨z, hz⟩ := mem_fields1.1 hmem
                exact HE.out.2.1 o f z hz
              have Hsn := Aside0.mk hsn
              have Hpos := Aside0.mk (next_pos E o hmem)
              have Hf := Aside0.mk hf64
              have Hin := Aside0.mk hin
              have Hln := Aside0.mk (show (t ++ pushed E o j).length ≤ 2000000000 by
                have h1 := pushed_len E o j
                rw [HD.out.1] at h1
                have h2 := HK.out
                have h3 := HD.out.2
                have h4 := Hl.out.1
                rw [List.length_append]
                simp only [List.length_cons] at h2
                omega)
              have hal : Below wr.heap.size wr (wr.alloc (.cells #[.int .i64 o] 3)) := below_alloc (Below.refl _ _) _
              have HR1 : Aside0 (RdV (wr.alloc (.cells #[.int .i64 o] 3)) (.slice (some ⟨wr.heap.size, 0, none⟩) 1 1) [o]) := ⟨RdV.one (blk_cell (heap_alloc_new _ _) 0)⟩
              have HS5 := Aside0.mk (HS4.out.below hal)
              have HF5 := Aside0.mk (HF4.out.below hal)
              have HQ5 := Aside0.mk (HQ4.out.below hal)
              clear hin hj hx2 hff hsn hmem hf64 hal eg hrg HF4 HQ4 HS4
              replace j0 := eq_true j0
              replace j1 := eq_true j1
              go_wp2_with fail
              refine (next_any p T E f _ [o] _ (H.out.below HS5.out.b) HR1.out (HT.out.below HS5.out.b) Hf.out (by intro x hx; rw [List.mem_singleton] at hx; subst hx; exact ok64_of (by have := Ho.out; omega) (by have := Ho.out; have := Hl.out; omega)) (by simp)).mono ?_
              rintro e w6 ⟨v6, rfl, r1, r2⟩
              have HS6 := Aside0.mk (HS5.out.below r2)
              have HF6 := Aside0.mk (HF5.out.below r2)
              have HQ6 := Aside0.mk (HQ5.out.below r2)
              have HV6 := Aside0.mk r1.toV
              have Hnl := Aside0.mk (next_len E f [o])
              clear r1 r2
              go_wp2_with (first | (at_builtin; refine appQ (G := G2) rfl (.tmp 42) (.tmp 47) rfl _ _ (t ++ pushed E o j) (nextG E f [o]) rfl rfl HQ6.out HV6.out Hpos.out (by have := Hln.out; have := Hnl.out; have := Hl.out.2.2; omega) ?_; intro v7 w7 ho7 hc7))
              have HF7 := Aside0.mk (HF6.out.chg hc7 (fun k hk hg => HS6.out.d k hk hg))
              have HS7 := Aside0.mk (HS6.out.setG hc7)
              have HQ7 := Aside0.mk ho7
              clear ho7 hc7
              go_roundw
              case rel => exact ⟨j + 1, _, by go_num, Hin.out, HF7, ⟨by rw [Hsn.out, ← List.append_assoc]; exact HQ7.out⟩, HS7⟩
              case measure => have := Hin.out; simp [intOf]; omega
            · have hnb : decide ((j : Int) < ((fieldsG E [o]).length : Int)) = false := decide_eq_false (by omega)
              have hnc : decide (j < (fieldsG E [o]).length) = false := decide_eq_false hin
              obtain rfl : j = (fieldsG E [o]).length := by omega
              clear hin hj
              go_wp2_with fail
              go_roundg ((t ++ pushed E o (fieldsG E [o]).length).length + (T.length - (ins l o).length) * D)
              case measure => have h1 := HP'.out; have h2 := HK.out.1; omega
              case rel => exact ⟨_, _, _, _, HF4, HQ4, HI', ⟨rfl, by have h1 := HP'.out; have h2 := HK.out; omega⟩, HS4⟩
      · have d1 := decide_eq_false ho
        rw [d1]
        have HI' := Aside0.mk (HI.out.out HE.out.1 ho)
        clear d1 ho
        go_wp2_with fail
        go_roundg (t.length + (T.length - l.length) * D)
        case measure => have := HK.out.1; have h2 := HM.out.1; simp only [List.length_cons] at this; omega
        case rel => exact ⟨t, l, _, _, HSet, HQ3, HI', ⟨rfl, by have := HK.out; simp only [List.length_cons] at this; omega⟩, HSep⟩
end Go.Proofs.YtfgonclaiphoeaaGreatDoor.Gr
