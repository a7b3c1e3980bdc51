/- InternIds, walked. -/
import Derived.Test.YtmaoadlighjkpaaIn
namespace Go.Proofs.Ytmaoadlighjkpaa.In
open Go.RowKit Go.Proofs.YtmaoadlighjkpaaW.PrintWords Go.Proofs.YtmaoadlighjkpaaW.PrintLast Go.Proofs.YtmaoadlighjkpaaW.PrintMore
open Go.Proofs.Ytmaoadlighjkpaa.Base Go.Proofs.Ytmaoadlighjkpaa.Map Go.Proofs.Ytmaoadlighjkpaa.Ca Go.Proofs.Ytmaoadlighjkpaa.Qu Go.Maps
set_option linter.unusedVariables false

theorem idL_len (tl : List (List Int)) (ns : List Int) : tl.length ≤ (idL tl ns).length ∧ (idL tl ns).length ≤ tl.length + 1 := by unfold idL; split <;> simp
theorem idL_nodup {tl : List (List Int)} (h : tl.Nodup) (ns : List Int) : (idL tl ns).Nodup := by
  unfold idL
  split
  · exact h
  · rename_i hn
    rw [not_or] at hn
    refine List.nodup_append.2 ⟨h, by simp, fun a ha b hb e => ?_⟩
    rw [List.mem_singleton.1 hb] at e
    exact hn.2 (e ▸ ha)
theorem place_nodup {tl : List (List Int)} (h : tl.Nodup) (i : Nat) (hi : i < tl.length) : place tl tl[i] = i := place_first hi rfl (fun j hj hji => List.pairwise_iff_getElem.1 h j i hj hi hji)
theorem seek_find {tl : List (List Int)} (hok : ∀ x ∈ tl, tOk x) (ns : List Int) : ∃ q f b, seekOf tl ns = q ∧ findOf tl ns = (f, b) ∧ b = decide (q ≥ 0) ∧ (b = true → f = q) ∧ (b = false → f = 0) := by
  by_cases hm : ns ∈ tl
  · exact ⟨(place tl ns : Int), (place tl ns : Int), true, seek_pos hm, by unfold findOf; rw [if_pos ⟨(hok ns hm).1, hm⟩], by simp, by simp, by simp⟩
  · exact ⟨-1, 0, false, seek_neg hm, by unfold findOf; rw [if_neg (fun h => hm h.2)], by simp, by simp, by simp⟩
theorem OwI.put {w : World} {base n c : Nat} {A : Option Addr} {l : List Int} (h : OwI w base (.slice A n c) l) (hl : 0 < l.length) :
    ∃ b, A = some ⟨b, 0, none⟩ ∧ base ≤ b ∧ w.cell? ⟨b, 0, none⟩ = some (.int .i64 (rd l 0)) ∧ w.frozen? ⟨b, 0, none⟩ = false := by
  obtain ⟨b, cap, he, hb, hlt, _⟩ := Kd.R_form h.out hl
  injection he with e1 e2 e3
  subst e1; subst e2; subst e3
  have hc := Kd.R_cell (0 : Int) h.out 0 (by omega) (by omega)
  exact ⟨b, rfl, hb, hc.1, hc.2⟩

theorem wpAnyH_more {P : Program} {md : Region.Mode} {ops : Array Oper} {Q : Exit → Act → World → Prop} {S' S : World → Prop} (hSS : ∀ w, S' w → S w) :
    ∀ (fuel : Nat) (listed : Array Bool) (a : Act) (w : World), wpAnyH P md ops Q S' fuel listed a w → wpAnyH P md ops Q S fuel listed a w
  | 0, _, _, _, h => h
  | fuel + 1, _, _, _, h => ⟨h.1, fun i hi => wpOp_mono (fun a' w' h' => ⟨hSS w' h'.1, wpAnyH_more hSS fuel _ a' w' h'.2⟩) (h.2 i hi)⟩

set_option maxHeartbeats 8000000 in
set_option maxRecDepth 100000 in
theorem internIds_walk (L : List (List Int)) (ask : List Int) (id : Int) (A B : Option Addr) (c d : Nat) (w : World) (hc : L.length ≤ c) (hr : RdR w A L) (hd : ask.length ≤ d) (hra : RdI w B ask)
    (hwL : ∀ xs ∈ L, ∀ x ∈ xs, (Lit.int .i64 x).wf = true) (hwA : ∀ x ∈ ask, (Lit.int .i64 x).wf = true) :
    Calls Try.prog 10 #[.slice A L.length c, .slice B ask.length d, .int .i64 id] w fun e w' => e = .returned (.bool true) ∧ Below w.heap.size w w' := by
  have hask := hra.toV hd
  by_cases h60 : (60 : Int) < L.length
  · go_enter Try.func10, Try.ntmps10
    go_wp2_with fail
    refine (awake_in _).mono ?_
    rintro e w1 ⟨rfl, h1⟩
    go_wp2_with fail
    refine (awake_in _).mono ?_
    rintro e w2 ⟨rfl, h2⟩
    go_wp2
    go_ret
    exact ⟨rfl, bel_trans h1 h2⟩
  · by_cases h20 : (20 : Int) < ask.length
    · go_enter Try.func10, Try.ntmps10
      go_wp2_with fail
      refine (awake_in _).mono ?_
      rintro e w1 ⟨rfl, h1⟩
      go_wp2_with fail
      refine (awake_in _).mono ?_
      rintro e w2 ⟨rfl, h2⟩
      go_wp2
      go_ret
      exact ⟨rfl, bel_trans h1 h2⟩
    · have Hc := Aside0.mk hc
      have Hd := Aside0.mk hd
      have HwL := Aside0.mk hwL
      have HwA := Aside0.mk hwA
      clear hc hd hwL hwA
      go_enter Try.func10, Try.ntmps10
      go_wp2_with fail
      refine (awake_in _).mono ?_
      rintro e w1 ⟨rfl, h1⟩
      go_wp2_with fail
      refine (new_ts w w1 h1).mono ?_
      rintro e w2 ⟨p, rfl, h2⟩
      have hP := PSt.first h2
      clear h1 h2
      go_wp2_with fail
      generalize w2.alloc (.cells #[.slice none 0 0, .slice none 0 0] 58) = w3 at *
      generalize w2.heap.size = r at *
      go_loopw [9] (fun I wr => ∃ (i : Nat) (tl : List (List Int)), I = .int .i64 i ∧ i ≤ L.length ∧ tl.length ≤ i ∧ tl.Nodup ∧ PSt w wr p r [] tl tl []) (fun i _ => L.length - (intOf i).toNat)
      case atStart => exact ⟨0, [], rfl, Nat.zero_le _, Nat.le_refl _, List.nodup_nil, hP⟩
      case round =>
        obtain ⟨i, tl, rfl, hi, htl, hnd, hQ⟩ := hrel
        by_cases hlt : i < L.length
        · obtain ⟨ad, A', c', hA, hx0, hrx0⟩ := RdR.at_ hr i hlt
          have hB0 := hQ.bel
          have hgd : L.getD i [] = L[i] := by simp [hlt]
          have hwn : ∀ x ∈ L[i], (Lit.int .i64 x).wf = true := HwL.out _ (List.getElem_mem hlt)
          rw [hgd] at hx0 hrx0
          generalize L[i] = ns at *
          have hx := pw_cell_below (w := w) hB0 hx0
          have hrx := hrx0.below hB0
          subst hA
          have i0 : (0 : Int) ≤ (i : Int) := by omega
          have i1 : (i : Int) < (L.length : Int) := by omega
          have Hwn := Aside0.mk hwn
          clear hgd hwn
          by_cases h20 : (20 : Int) < ns.length
          · go_wp2
            go_ret
            exact ⟨rfl, hB0⟩
          · have HO := R_empty wr
            have HR := hrx.alloc (.cells #[] 3)
            have HB := below_alloc (Below.refl wr.heap.size wr) (.cells #[] 3)
            obtain ⟨tl', htl'⟩ : ∃ t, idL tl ns = t := ⟨_, rfl⟩
            have hll := idL_len tl ns
            have hnd' := idL_nodup hnd ns
            rw [htl'] at hll hnd'
            have Htl' := Aside0.mk htl'
            obtain ⟨q, hq⟩ : ∃ q, idOf tl ns = q := ⟨_, rfl⟩
            have Hq := Aside0.mk hq
            have Hnd := Aside0.mk hnd'
            have hx1 : (wr.alloc (.cells #[] 3)).cell? (ad.add i) = some (.slice A' ns.length c') := pw_cell_below (w := wr) HB hx
            clear htl' hq hnd hnd'
            go_wp2_with (first | (at_builtin; refine app_row (w0 := wr) wr.heap.size rfl (.tmp 46) (.tmp 50) rfl _ _ [] ns rfl rfl HO HR HB HB.size (by simp; omega) ?_; intro v4 w4 H4 HB4 hg4 hat4; clear hg4 hat4 HO HR HB; rw [List.nil_append] at H4))
            have h4 := PSo.own hQ HB4 H4
            obtain ⟨A4, c4, rfl, hc4, hr4⟩ := H4.rd
            clear hx1 HB4 H4 hr4 hx hrx
            have hB4 := h4.bel
            have hm4 : tl.length ≤ 1000000 := by omega
            have Hll := Aside0.mk hll
            clear hll
            have hN : ((tl'.length : Nat) : Int) = tl'.length := rfl
            refine wp_region_held_drew (S := (fun W => W.cell? (ad.add i) = some (.slice A' ns.length c') ∧ Below w.heap.size w W)) (by kernel_rfl) ?_ (fun hHeld => ?_)
            · (refine ⟨pw_cell_below (w := w) ?_ hx0, ?_⟩ <;> simp [*])
            refine wpAnyH_take (i := 0) (oi := _) (v := ?_) (List.getElem?_toArray.trans rfl) (by kernel_rfl) (by kernel_rfl) (by kernel_rfl) (fun _ _ _ h => h) (Or.inl ⟨by rfl, ?_⟩) (by assumption) ?_
            rotate_left
            · intro w hSw; (try dsimp only at hSw); go_simp <;> with_reducible rfl
            try simp only [Act.put, List.setIfInBounds_toArray, List.set_cons_zero, List.set_cons_succ]
            refine wpAnyH_take (i := 1) (oi := _) (v := ?_) (List.getElem?_toArray.trans rfl) (by kernel_rfl) (by kernel_rfl) (by kernel_rfl) (fun _ _ _ h => h) (Or.inl ⟨by rfl, ?_⟩) (by assumption) ?_
            rotate_left
            · intro w hSw; (try dsimp only at hSw); go_simp <;> with_reducible rfl
            try simp only [Act.put, List.setIfInBounds_toArray, List.set_cons_zero, List.set_cons_succ]
            refine wpAnyH_take (i := 3) (oi := _) (v := ?_) (List.getElem?_toArray.trans rfl) (by kernel_rfl) (by kernel_rfl) (by kernel_rfl) (fun _ _ _ h => h) (Or.inl ⟨by rfl, ?_⟩) (by assumption) ?_
            rotate_left
            · intro w hSw; (try dsimp only at hSw); go_simp <;> with_reducible rfl
            try simp only [Act.put, List.setIfInBounds_toArray, List.set_cons_zero, List.set_cons_succ]
            refine wpAnyH_take (i := 4) (oi := _) (v := ?_) (List.getElem?_toArray.trans rfl) (by kernel_rfl) (by kernel_rfl) (by kernel_rfl) (fun _ _ _ h => h) (Or.inl ⟨by rfl, ?_⟩) (by assumption) ?_
            rotate_left
            · intro w hSw; (try dsimp only at hSw); go_simp <;> with_reducible rfl
            try simp only [Act.put, List.setIfInBounds_toArray, List.set_cons_zero, List.set_cons_succ]
            refine wpAnyH_take (i := 5) (oi := _) (v := ?_) (List.getElem?_toArray.trans rfl) (by kernel_rfl) (by kernel_rfl) (by kernel_rfl) (fun _ _ _ h => h) (Or.inl ⟨by rfl, ?_⟩) (by assumption) ?_
            rotate_left
            · intro w hSw; (try dsimp only at hSw); go_simp <;> with_reducible rfl
            try simp only [Act.put, List.setIfInBounds_toArray, List.set_cons_zero, List.set_cons_succ]
            refine wpAnyH_take (i := 6) (oi := _) (v := ?_) (List.getElem?_toArray.trans rfl) (by kernel_rfl) (by kernel_rfl) (by kernel_rfl) (fun _ _ _ h => h) (Or.inl ⟨by rfl, ?_⟩) (by assumption) ?_
            rotate_left
            · intro w hSw; (try dsimp only at hSw); go_simp <;> with_reducible rfl
            try simp only [Act.put, List.setIfInBounds_toArray, List.set_cons_zero, List.set_cons_succ]
            refine wpAnyH_take (i := 7) (oi := _) (v := ?_) (List.getElem?_toArray.trans rfl) (by kernel_rfl) (by kernel_rfl) (by kernel_rfl) (fun _ _ _ h => h) (Or.inl ⟨by rfl, ?_⟩) (by assumption) ?_
            rotate_left
            · intro w hSw; (try dsimp only at hSw); go_simp <;> with_reducible rfl
            try simp only [Act.put, List.setIfInBounds_toArray, List.set_cons_zero, List.set_cons_succ]
            refine wpAnyH_ready (rs := [2]) (by kernel_rfl) (by simp) ?_
            refine AllReadyH.cons (o := _) (List.getElem?_toArray.trans rfl) (fun K hK => ?_) AllReadyH.nil
            go_simp
            refine (id_pso w _ p r [] [] tl tl _ ns h4.drew Hwn.out hm4).mono ?_
            rintro e w5 ⟨rfl, h5⟩
            rw [Htl'.out] at h5
            rw [Hq.out]
            have hB5 := h5.bel
            go_wp2_with fail
            refine hK.out _ _ ?_ (fun hHeld => ?_)
            · (refine ⟨pw_cell_below (w := w) ?_ hx0, ?_⟩ <;> simp [*])
            clear hK K
            try simp only [Act.put, List.setIfInBounds_toArray, List.set_cons_zero, List.set_cons_succ]
            refine wpAnyH_ready (rs := [8]) (by kernel_rfl) (by simp) ?_
            refine AllReadyH.cons (o := _) (List.getElem?_toArray.trans rfl) (fun K hK => ?_) AllReadyH.nil
            go_simp
            refine (refId_pso w _ p r [] [] tl' tl (.slice A4 ns.length c4) _ ns ns h5 (hrx0.below hB5) hm4).mono ?_
            rintro e w6 ⟨rfl, h6⟩
            rw [Htl'.out] at h6
            rw [Hq.out]
            have hB6 := h6.bel
            obtain ⟨A6, c6, d6, hc6, hr6, _⟩ := h6.st.list
            go_wp2_with fail
            refine hK.out _ _ ?_ (fun hHeld => ?_)
            · (refine ⟨pw_cell_below (w := w) ?_ hx0, ?_⟩ <;> simp [*])
            clear hK K
            try simp only [Act.put, List.setIfInBounds_toArray, List.set_cons_zero, List.set_cons_succ]
            refine wpAnyH_more (S' := fun W => (W.cell? (ad.add i) = some (.slice A' ns.length c') ∧ Below w.heap.size w W) ∧ W.cell? ⟨r, 0, none⟩ = some (.slice A6 tl'.length c6)) (fun W h => h.1) _ _ _ _ ?_
            have hHeld2 := And.intro hHeld d6
            refine wpAnyH_take (i := 9) (oi := _) (v := ?_) (List.getElem?_toArray.trans rfl) (by kernel_rfl) (by kernel_rfl) (by kernel_rfl) (fun _ _ _ h => h) (Or.inl ⟨by rfl, ?_⟩) (by assumption) ?_
            rotate_left
            · intro w hSw; (try dsimp only at hSw); go_simp <;> with_reducible rfl
            try simp only [Act.put, List.setIfInBounds_toArray, List.set_cons_zero, List.set_cons_succ]
            refine wpAnyH_take (i := 10) (oi := _) (v := ?_) (List.getElem?_toArray.trans rfl) (by kernel_rfl) (by kernel_rfl) (by kernel_rfl) (fun _ _ _ h => h) (Or.inl ⟨by rfl, ?_⟩) (by assumption) ?_
            rotate_left
            · intro w hSw; (try dsimp only at hSw); go_simp <;> with_reducible rfl
            try simp only [Act.put, List.setIfInBounds_toArray, List.set_cons_zero, List.set_cons_succ]
            refine wpAnyH_take (i := 11) (oi := _) (v := ?_) (List.getElem?_toArray.trans rfl) (by kernel_rfl) (by kernel_rfl) (by kernel_rfl) (fun _ _ _ h => h) (Or.inl ⟨by rfl, ?_⟩) (by assumption) ?_
            rotate_left
            · intro w hSw; (try dsimp only at hSw); go_simp <;> with_reducible rfl
            try simp only [Act.put, List.setIfInBounds_toArray, List.set_cons_zero, List.set_cons_succ]
            refine wpAnyH_take (i := 13) (oi := _) (v := ?_) (List.getElem?_toArray.trans rfl) (by kernel_rfl) (by kernel_rfl) (by kernel_rfl) (fun _ _ _ h => h) (Or.inl ⟨by rfl, ?_⟩) (by assumption) ?_
            rotate_left
            · intro w hSw; (try dsimp only at hSw); go_simp <;> with_reducible rfl
            try simp only [Act.put, List.setIfInBounds_toArray, List.set_cons_zero, List.set_cons_succ]
            refine wpAnyH_take (i := 14) (oi := _) (v := ?_) (List.getElem?_toArray.trans rfl) (by kernel_rfl) (by kernel_rfl) (by kernel_rfl) (fun _ _ _ h => h) (Or.inl ⟨by rfl, ?_⟩) (by assumption) ?_
            rotate_left
            · intro w hSw; (try dsimp only at hSw); go_simp <;> with_reducible rfl
            try simp only [Act.put, List.setIfInBounds_toArray, List.set_cons_zero, List.set_cons_succ]
            refine wpAnyH_take (i := 15) (oi := _) (v := ?_) (List.getElem?_toArray.trans rfl) (by kernel_rfl) (by kernel_rfl) (by kernel_rfl) (fun _ _ _ h => h) (Or.inl ⟨by rfl, ?_⟩) (by assumption) ?_
            rotate_left
            · intro w hSw; (try dsimp only at hSw); go_simp <;> with_reducible rfl
            try simp only [Act.put, List.setIfInBounds_toArray, List.set_cons_zero, List.set_cons_succ]
            refine wpAnyH_take (i := 16) (oi := _) (v := ?_) (List.getElem?_toArray.trans rfl) (by kernel_rfl) (by kernel_rfl) (by kernel_rfl) (fun _ _ _ h => h) (Or.inl ⟨by rfl, ?_⟩) (by assumption) ?_
            rotate_left
            · intro w hSw; (try dsimp only at hSw); go_simp <;> with_reducible rfl
            try simp only [Act.put, List.setIfInBounds_toArray, List.set_cons_zero, List.set_cons_succ]
            refine wpAnyH_take (i := 17) (oi := _) (v := ?_) (List.getElem?_toArray.trans rfl) (by kernel_rfl) (by kernel_rfl) (by kernel_rfl) (fun _ _ _ h => h) (Or.inl ⟨by rfl, ?_⟩) (by assumption) ?_
            rotate_left
            · intro w hSw; (try dsimp only at hSw); go_simp <;> with_reducible rfl
            try simp only [Act.put, List.setIfInBounds_toArray, List.set_cons_zero, List.set_cons_succ]
            refine wpAnyH_ready (rs := [12]) (by kernel_rfl) (by simp) ?_
            refine AllReadyH.cons (o := _) (List.getElem?_toArray.trans rfl) (fun K hK => ?_) AllReadyH.nil
            go_simp
            refine (len_ps w _ p r [] [] tl' tl' h6.st).mono ?_
            rintro e w7 ⟨rfl, rfl⟩
            go_wp2_with fail
            refine hK.out _ _ ?_ (fun hHeld => ?_)
            · assumption
            clear hK K
            try simp only [Act.put, List.setIfInBounds_toArray, List.set_cons_zero, List.set_cons_succ]
            refine wpAnyH_take (i := 18) (oi := _) (v := ?_) (List.getElem?_toArray.trans rfl) (by kernel_rfl) (by kernel_rfl) (by kernel_rfl) (fun _ _ _ h => h) (Or.inl ⟨by rfl, ?_⟩) (by assumption) ?_
            rotate_left
            · intro w hSw; (try dsimp only at hSw); go_simp <;> with_reducible rfl
            try simp only [Act.put, List.setIfInBounds_toArray, List.set_cons_zero, List.set_cons_succ]
            refine wpAnyH_take (i := 19) (oi := _) (v := ?_) (List.getElem?_toArray.trans rfl) (by kernel_rfl) (by kernel_rfl) (by kernel_rfl) (fun _ _ _ h => h) (Or.inl ⟨by rfl, ?_⟩) (by assumption) ?_
            rotate_left
            · intro w hSw; (try dsimp only at hSw); go_simp <;> with_reducible rfl
            try simp only [Act.put, List.setIfInBounds_toArray, List.set_cons_zero, List.set_cons_succ]
            refine wpAnyH_done (by kernel_rfl) ?_ _
            clear h4 h5 hB4 hB5 d6 hc6 hr6 hHeld hHeld2
            by_cases hpos : (0 : Int) < ns.length
            all_goals first
              | (obtain ⟨b, rfl, e4, z4, hput⟩ := h6.put (by omega)
                 go_wp2_with fail
                 go_roundw
                 case rel => exact ⟨i + 1, tl', by go_num, by omega, by have := Hll.out; omega, Hnd.out, hput _⟩
                 case measure => simp [intOf]; omega)
              | (go_wp2_with fail
                 go_roundw
                 case rel => exact ⟨i + 1, tl', by go_num, by omega, by have := Hll.out; omega, Hnd.out, h6.st⟩
                 case measure => simp [intOf]; omega)
        · obtain rfl : i = L.length := by omega
          obtain ⟨F, htab⟩ := hQ.tab
          have hok := htab.oks
          have Hok := Aside0.mk hok
          have Hnd := Aside0.mk hnd
          clear htab hnd
          obtain ⟨q, f, b, hs, hf, hb, hbt, hbf⟩ := seek_find hok ask
          have Hf := Aside0.mk hf
          have Hs := Aside0.mk hs
          have htlen : tupleOf tl (tl.length : Int) = [] := by unfold tupleOf; rw [if_neg (by omega)]
          have Htl := Aside0.mk htlen
          clear hok hf hs htlen
          go_wp2_with fail
          go_loopw [11] (fun I wx => ∃ j : Nat, I = .int .i64 j ∧ j ≤ tl.length ∧ PSt w wx p r [] tl tl []) (fun j _ => tl.length - (intOf j).toNat)
          case atStart => exact ⟨0, rfl, Nat.zero_le _, hQ⟩
          case round =>
            clear hQ
            obtain ⟨j, rfl, hj, hQ⟩ := hrel
            by_cases hltj : j < tl.length
            · obtain ⟨A5, c5, d5, hc5, hr5, _⟩ := hQ.list
              obtain ⟨ad5, A6, c6, hA5, hx5, hrx5⟩ := RdR.at_ hr5 j hltj
              have hgd : tl.getD j [] = tl[j] := by simp [hltj]
              have ht : tupleOf tl (j : Int) = tl[j] := by unfold tupleOf; rw [if_pos (by omega), Int.toNat_natCast, hgd]
              have hfj : findOf tl tl[j] = ((j : Int), true) := by unfold findOf; rw [if_pos ⟨(Hok.out _ (List.getElem_mem hltj)).1, List.getElem_mem hltj⟩, place_nodup Hnd.out j hltj]
              have hwn : ∀ x ∈ tl[j], (Lit.int .i64 x).wf = true := (Hok.out _ (List.getElem_mem hltj)).2
              rw [hgd] at hx5 hrx5
              subst hA5
              clear hgd hr5
              generalize tl[j] = ns at *
              have i0 : (0 : Int) ≤ (j : Int) := by omega
              have i1 : (j : Int) < (tl.length : Int) := by omega
              have Hwn := Aside0.mk hwn
              have Hfj := Aside0.mk hfj
              have Ht := Aside0.mk ht
              clear hwn hfj ht
              go_wp2_with fail
              refine (tuple_ps w _ p r [] [] tl tl hQ (j : Int)).mono ?_
              rintro e w5 ⟨v5, rfl, h5, hb5⟩
              rw [Ht.out] at h5
              obtain ⟨A7, c7, rfl, hc7, hr7⟩ := h5.rd
              clear hr7
              have d6 := bel_cell hb5 d5
              have hx6 := pw_cell_below (w := wr) hb5 hx5
              go_wp2_with fail
              refine (same_any _ _ ns ns _ h5.toV (hrx5.below hb5)).mono ?_
              rintro e w6 ⟨rfl, hb6⟩
              rw [beq_self_eq_true]
              have hb56 := bel_trans hb5 hb6
              have h6 := h5.below hb6
              clear d6 hx6 h5 hb5 hb6
              by_cases hpos : (0 : Int) < ns.length
              · obtain ⟨b7, rfl, hbb, e7, z7⟩ := OwI.put h6 (by omega)
                have hbs : ∀ u, Below wr.heap.size wr (w6.setCell ⟨b7, 0, none⟩ u) := fun u => below_setCell hb56 hbb u
                have d6 : ∀ u, (w6.setCell ⟨b7, 0, none⟩ u).cell? ⟨r, 0, none⟩ = some (.slice (some ad5) tl.length c5) := fun u => bel_cell (hbs u) d5
                have hx6 : ∀ u, (w6.setCell ⟨b7, 0, none⟩ u).cell? (ad5.add j) = some (.slice A6 ns.length c6) := fun u => pw_cell_below (w := wr) (hbs u) hx5
                have Hbs := Aside0.mk hbs
                clear hbs h6
                go_wp2_with fail
                refine (find_ps w _ p r [] [] tl tl _ ns (hQ.below (Hbs.out _)) (hrx5.below (Hbs.out _)) Hwn.out).mono ?_
                rintro e w7 ⟨rfl, hb7⟩
                rw [Hfj.out]
                have hQ7 := hQ.below (bel_trans (Hbs.out _) hb7)
                clear d6 hx6 hb7
                go_wp2_with fail
                go_roundw
                case rel => exact ⟨j + 1, by go_num, by omega, hQ7⟩
                case measure => simp [intOf]; omega
              · have d6 := bel_cell hb56 d5
                have hx6 := pw_cell_below (w := wr) hb56 hx5
                clear h6
                go_wp2_with fail
                refine (find_ps w _ p r [] [] tl tl _ ns (hQ.below hb56) (hrx5.below hb56) Hwn.out).mono ?_
                rintro e w7 ⟨rfl, hb7⟩
                rw [Hfj.out]
                have hQ7 := hQ.below (bel_trans hb56 hb7)
                clear d6 hx6 hb7
                go_wp2_with fail
                go_roundw
                case rel => exact ⟨j + 1, by go_num, by omega, hQ7⟩
                case measure => simp [intOf]; omega
            · obtain rfl : j = tl.length := by omega
              obtain ⟨A5, c5, d5, hc5, hr5, _⟩ := hQ.list
              have hB := hQ.bel
              go_wp2_with fail
              refine (refFind_ps w _ p r [] [] tl tl _ ask hQ (hask.below hB)).mono ?_
              rintro e w5 ⟨rfl, hb5⟩
              rw [Hs.out]
              go_wp2_with fail
              have hQ5 := hQ.below hb5
              refine (find_ps w _ p r [] [] tl tl _ ask hQ5 (hask.below hQ5.bel) HwA.out).mono ?_
              rintro e w6 ⟨rfl, hb6⟩
              rw [Hf.out]
              have hb56 := bel_trans hb5 hb6
              have d6 := bel_cell hb56 d5
              have hQ6 := hQ.below hb56
              clear hQ5 hb5 hb6 hr5 hc5
              have htid : ¬ (0 ≤ id ∧ id < tl.length) → tupleOf tl id = [] := fun h => by unfold tupleOf; rw [if_neg h]
              have Htid := Aside0.mk htid
              clear htid
              subst hb
              by_cases hq0 : q ≥ 0
              all_goals first
                | (have hd : decide (q ≥ 0) = true := decide_eq_true hq0
                   have hfq : f = q := hbt hd
                   subst hfq)
                | (have hd : decide (q ≥ 0) = false := decide_eq_false hq0
                   have hfq : f = 0 := hbf hd
                   subst hfq)
              all_goals rw [hd]
              all_goals clear hbt hbf
              all_goals by_cases hid0 : 0 ≤ id
              all_goals by_cases hid1 : id < (tl.length : Int)
              all_goals try (exfalso; omega)
              all_goals
                go_wp2_with fail
                refine (tuple_ps w _ p r [] [] tl tl hQ6 (tl.length : Int)).mono ?_
                rintro e w7 ⟨v7, rfl, h7, hb7⟩
                rw [Htl.out] at h7
                obtain ⟨A7, c7, rfl, _, _⟩ := h7.rd
                rw [List.length_nil]
                have d7 := bel_cell hb7 d6
                have hQ7 := hQ6.below hb7
                clear h7 d6
                first
                  | (go_wp2_with fail
                     refine (tuple_ps w _ p r [] [] tl tl hQ7 id).mono ?_
                     rintro e w8 ⟨v8, rfl, h8, hb8⟩
                     rw [Htid.out (by omega)] at h8
                     obtain ⟨A8, c8, rfl, _, _⟩ := h8.rd
                     rw [List.length_nil]
                     go_wp2
                     go_ret
                     exact ⟨rfl, (hQ7.below hb8).bel⟩)
                  | (go_wp2
                     go_ret
                     exact ⟨rfl, hQ7.bel⟩)
end Go.Proofs.Ytmaoadlighjkpaa.In
