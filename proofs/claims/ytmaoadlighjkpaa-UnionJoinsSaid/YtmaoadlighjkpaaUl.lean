/- union.Union: Classes, walked. -/
import Derived.Test.YtmaoadlighjkpaaUk
namespace Go.Proofs.Ytmaoadlighjkpaa.Un
open Go.RowKit Go.Proofs.YtmaoadlighjkpaaW.PrintWords Go.Proofs.YtmaoadlighjkpaaW.PrintLast Go.Proofs.YtmaoadlighjkpaaW.PrintMore
open Go.Proofs.Ytmaoadlighjkpaa.Base Go.Proofs.Ytmaoadlighjkpaa.Map Go.Proofs.Ytmaoadlighjkpaa.Qu Go.Proofs.Ytmaoadlighjkpaa.In Go.Maps
set_option linter.unusedVariables false

/-- rows of rows of the call's own, apart from one another -/
abbrev Rows2 (w : World) (base : Nat) (v : Value) (xs : List (List Int)) : Prop := Kd.S (Kd.slice 3 (Kd.int .i64)) 22 w base (fun _ => True) v xs
theorem rows2_step {w w1 : World} {base : Nat} {v : Value} {xs : List (List Int)} (h : Rows2 w base v xs) {F : Nat → Prop} (hC : Chg F w w1) (hF : ∀ k, F k → k < base ∨ ∃ es c, w.heap[k]? = some (.map es c)) : Rows2 w1 base v xs :=
  Kd.S_mono (Kd.S_step (Kd.S_bound h) (fun k hk hlt => hC.block k hlt (fun hf => by
    obtain ⟨_, hb, _, q, _, cells, hc⟩ := hk
    rcases hF k hf with h1 | ⟨es, c, h1⟩
    · omega
    · rw [h1] at hc; cases hc))) (fun _ _ => trivial)

theorem zero3 (w : World) : (zeroValue 3).run Try.prog w = .ok (.int .i64 0) w := by kernel_rfl
theorem below_alloc_at (B : Nat) (w : World) (o : Obj) (h : B ≤ w.heap.size) : Below B w (w.alloc o) := (below_alloc (Below.refl w.heap.size w) o).mono h
theorem setCells_one (w : World) (g i : Nat) (v : Value) : w.setCells g (i * 1 + 0) [v] = w.setCell ⟨g, i, none⟩ v := by
  rw [Nat.mul_one, Nat.add_zero]; rfl
/-- an element of the row, written anew: its own row was appended to -/
theorem rows2_put {w3 w4 : World} {base g n cap ix : Nat} {rows : List (List Int)} {row' : List Int} {oki : Nat → Prop} {vi v4 : Value} {o : Obj}
    (hH : Kd.H (Kd.slice 3 (Kd.int .i64)) 22 w3 base (fun _ => True) (.slice (some ⟨g, 0, none⟩) n cap) rows (ix : Int) oki [vi]) (hi : ix < n) (hoki : ∀ k, oki k → True ∧ k ≠ g) (hgl : g < w3.heap.size) (hvo : ∀ k, vi.ownBlock = some k → oki k ∨ (True ∧ (w3.alloc o).heap.size ≤ k))
    (hg4 : (w3.alloc o).grownBy w4 vi.ownBlock) (hR4 : Kd.R (Kd.int .i64) 3 w4 base (fun k => oki k ∨ (True ∧ (w3.alloc o).heap.size ≤ k)) v4 row') : Rows2 (w4.setCell ⟨g, ix, none⟩ v4) base (.slice (some ⟨g, 0, none⟩) n cap) (rows.set ix row') := by
  have h2 := Kd.H_grown (Kd.H_widen (Kd.H_alloc hH o)) hg4 hvo
  have hv4 := (Kd.R_val hR4).2
  have h3 := Kd.H_seg h2 (by omega) (by omega) (seg := [v4]) (j := 0) (by simp [Kd.slice]) (fun q hq => by rw [List.mem_singleton.1 hq]; exact hv4)
  have hne : ∀ k, (oki k ∨ (True ∧ (w3.alloc o).heap.size ≤ k)) → k ≠ g := fun k hk => by
    rcases hk with hk | hk
    · exact (hoki k hk).2
    · have := hk.2; simp at this; omega
  have h4 := Kd.H_back (x' := row') h3.1 (Kd.M_step (d := Kd.slice 3 (Kd.int .i64)) (cs := [v4]) ⟨v4, rfl, hR4⟩ (fun k hk hlt => h3.2.block k hlt (fun he => hne k hk (by injection he)))) (fun k hk => hk)
  have e : w4.setCells g ((ix : Int).toNat * (Kd.slice 3 (Kd.int .i64)).sz + 0) [v4] = w4.setCell ⟨g, ix, none⟩ v4 := setCells_one w4 g ix v4
  rw [e, Int.toNat_natCast] at h4
  exact h4

theorem map_far {w w1 : World} {b n : Nat} {f : Lit → Option Value} {row : Option Nat} (h : MapP Try.prog 3 w b f n) (hv : ∀ k, row = some k → ∃ cells q, w.heap[k]? = some (.cells cells q (0, 0))) (hg : w.grownBy w1 row) : MapP Try.prog 3 w1 b f n := by
  obtain ⟨es, c, hb⟩ := h.at_block
  refine h.move (hg.block b h.lt (fun e => ?_))
  obtain ⟨cells, q, hc⟩ := hv b e.symm
  rw [hb] at hc; cases hc
theorem classes_put {w w3 w4 : World} {F : Nat → Prop} {p : Nat} {vU vS vH : Value} {hs : List Int} {g n cap ix mb cnt : Nat} {f : Lit → Option Value} {rows : List (List Int)} {row0 row' : List Int} {oki : Nat → Prop} {vi v4 : Value} {o : Obj} {cg : Array Value}
    (hF : ∀ k, F k → k < w.heap.size) (hM : MapP Try.prog 3 w3 mb f cnt) (hU : Uni w3 F p vU vS vH hs) (hC : Chg F w w3)
    (hH : Kd.H (Kd.slice 3 (Kd.int .i64)) 22 w3 w.heap.size (fun _ => True) (.slice (some ⟨g, 0, none⟩) n cap) rows (ix : Int) oki [vi]) (hi : ix < n) (hoki : ∀ k, oki k → True ∧ k ≠ g) (hgb : w.heap.size ≤ g) (hgc : w3.heap[g]? = some (.cells cg 22 (0, 0)))
    (hvA : Kd.R (Kd.int .i64) 3 (w3.alloc o) w.heap.size (fun k => oki k ∨ (True ∧ (w3.alloc o).heap.size ≤ k)) vi row0)
    (hg4 : (w3.alloc o).grownBy w4 vi.ownBlock) (hR4 : Kd.R (Kd.int .i64) 3 w4 w.heap.size (fun k => oki k ∨ (True ∧ (w3.alloc o).heap.size ≤ k)) v4 row') :
    Rows2 (w4.setCell ⟨g, ix, none⟩ v4) w.heap.size (.slice (some ⟨g, 0, none⟩) n cap) (rows.set ix row') ∧ MapP Try.prog 3 (w4.setCell ⟨g, ix, none⟩ v4) mb f cnt ∧ Uni (w4.setCell ⟨g, ix, none⟩ v4) F p vU vS vH hs ∧ Chg F w (w4.setCell ⟨g, ix, none⟩ v4) := by
  have hgl := blk_lt hgc
  have hne : vi.ownBlock ≠ some g := fun e => (hvA.1 g e).elim (fun h => (hoki g h).2 rfl) (fun h => by have := h.2; simp at this; omega)
  have hg4b : w4.heap[g]? = some (.cells cg 22 (0, 0)) := blk_grown (Qu.blk_below hgc (below_alloc (Below.refl _ _) o)) hg4 (fun e => hne e.symm)
  have hM1 := hM.below (below_alloc (Below.refl _ _) o)
  have hM2 := map_far hM1 (fun k hk => by obtain ⟨c, hc⟩ := Kd.R_typed hvA k hk; exact ⟨c, 3, hc⟩) hg4
  obtain ⟨es, c, hb⟩ := hM2.at_block
  have hM3 : MapP Try.prog 3 (w4.setCell ⟨g, ix, none⟩ v4) mb f cnt := hM2.move (Below.heap_setCell w4 ⟨g, ix, none⟩ v4 mb (fun e => by
    have e' : mb = g := e
    rw [e', hg4b] at hb; cases hb))
  have hAll : Chg (fun k => w.heap.size ≤ k) w3 (w4.setCell ⟨g, ix, none⟩ v4) :=
    ((Chg.alloc w3 o (fun k => w.heap.size ≤ k)).then_ (Chg.of_grown (F := fun k => w.heap.size ≤ k) hg4 (fun k hk => Kd.R_base hvA k hk)) (fun k hk => .inl hk)).then_ (Chg.setCell (F := fun k => w.heap.size ≤ k) w4 (p := ⟨g, ix, none⟩) hgb v4) (fun k hk => .inl hk)
  exact ⟨rows2_put hH hi hoki hgl hvA.1 hg4 hR4, hM3, hU.chg hAll (fun k hf hk => by have := hF k hf; omega), hC.then_ hAll (fun k hk => .inr hk)⟩

set_option maxHeartbeats 8000000 in
set_option maxRecDepth 100000 in
theorem classes_any (p : Nat) (F : Nat → Prop) (vU vS vH : Value) (hs : List Int) (w : World) (h : Uni w F p vU vS vH hs) (hF : ∀ k, F k → k < w.heap.size) (hlen : hs.length ≤ 100000) :
    Calls Try.prog 54 #[.pointer (some ⟨p, 0, none⟩)] w fun e w' => ∃ v, e = .returned v ∧ Rows2 w' w.heap.size v (classUp hs hs.length) ∧ Uni w' F p vU vS vH hs ∧ Chg F w w' := by
  have hmm := @run_makeMap Try.prog
  have hc0 : ∃ A cU, w.cell? ⟨p, 0, none⟩ = some (.slice A hs.length cU) := by
    obtain ⟨U, S, H, R, d, h1, h2, h3, h4⟩ := h
    obtain ⟨A, cU, rfl, _⟩ := Kd.R_reads h1.u
    exact ⟨A, cU, by have := blk_cell h1.blk 0; rw [← h4]; simpa using this⟩
  obtain ⟨AU, cU, hc0⟩ := hc0
  have hc1 : (w.alloc (.map #[] 0)).cell? ⟨p, 0, none⟩ = some (.slice AU hs.length cU) := bel_cell (below_alloc (Below.refl _ _) _) hc0
  have hcan := h.can
  have HM0 := MapP.made w Try.prog 3
  have HU0 := h.below (below_alloc (Below.refl w.heap.size w) (.map #[] 0))
  have HC0 := Chg.alloc w (.map #[] 0) F
  have HF := Aside0.mk hF
  clear h hF
  go_enter Try.func54, Try.ntmps54
  go_wp2_with fail
  clear hc0 hc1
  generalize w.alloc (.map #[] 0) = w1 at *
  go_loopw [15, 3] (fun I V wr => ∃ (j : Nat) (f : Lit → Option Value), I = .int .i64 (j : Int) ∧ j ≤ hs.length ∧ Rows2 wr w.heap.size V (classUp hs j) ∧ MapP Try.prog 3 wr w.heap.size f (headsUp hs j).length ∧ Aside0 (Dict natOk natLit f (headsUp hs j)) ∧ Uni wr F p vU vS vH hs ∧ Chg F w wr) (fun I _ _ => hs.length - (intOf I).toNat)
  case atStart => exact ⟨0, _, rfl, Nat.zero_le _, Kd.S_nil _ _ _ _ _, HM0, ⟨Dict.nil _ _⟩, HU0, HC0⟩
  case round =>
    obtain ⟨j, f, rfl, hj, hS0, hM0, hD, hU0, hC0⟩ := hrel
    clear HM0 HU0 HC0
    by_cases hlt : j < hs.length
    · obtain ⟨hh, e1, e2, e3⟩ := hcan.at_ j hlt
      have hho : headOf hs (j : Int) = (hh : Int) := by unfold headOf; rw [if_pos (by omega)]; exact e1
      have Hho := Aside0.mk hho
      have E1 := Aside0.mk e1
      have E3 := Aside0.mk e3
      have j0 : (0 : Int) ≤ (j : Int) := by omega
      have j1 : (j : Int) < (hs.length : Int) := by omega
      have hok : natOk hh := by unfold natOk; omega
      have Hkey := Aside0.mk (natLit_key hok)
      have Hok := Aside0.mk hok
      have hhl := headsUp_le hs j
      have Hcl := Aside0.mk (classUp_len hs j)
      have Hcan := Aside0.mk hcan
      have hmx : (headsUp hs j).length < Go.maxLen := by unfold Go.maxLen; omega
      clear hho e1 e3 hok hcan
      obtain ⟨Ao, co, rfl⟩ := Kd.S_slice hS0
      have hV : (classUp hs j).length = (headsUp hs j).length := Hcl.out
      rw [hV] at hS0 ⊢
      go_wp2_with fail
      refine (head_any p F vU vS vH hs (j : Int) _ hU0).mono ?_
      rintro e W0 ⟨rfl, hU, hCh⟩
      rw [Hho.out]
      have hM := hM0.chg hCh (fun hf => by have := HF.out _ hf; omega)
      have hS := rows2_step hS0 hCh (fun k hf => .inl (HF.out k hf))
      have hC := hC0.then_ hCh (fun k hk => .inl hk)
      clear hS0 hM0 hU0 hC0 hCh
      have hz := zero3 W0
      have hf := hD.out hh Hok.out
      have HS := Aside0.mk hS
      clear hS
      by_cases hnew : hh = j
      · subst hnew
        have hnm : hh ∉ headsUp hs hh := fun hm => absurd (mem_headsUp.1 hm).1 (Nat.lt_irrefl _)
        rw [if_neg hnm] at hf
        have hr : (f (natLit hh)).getD (.int .i64 0) = .int .i64 0 := by rw [hf]; rfl
        have ho : (f (natLit hh)).isSome = false := by rw [hf]; rfl
        have Hr := Aside0.mk hr
        have Ho := Aside0.mk ho
        have Hcls := Aside0.mk (class_new Hcan.out hlt E1.out)
        have hD2 := Aside0.mk (hD.out.snoc (x := hh) (fun a b _ _ => natLit_inj) Hok.out hnm)
        have hHn := Aside0.mk (headsUp_new (hs := hs) E1.out)
        clear hr ho hf
        generalize (headsUp hs hh).length = m at *
        go_wp2_with (first | (at_lookup; refine wp_look_ok rfl _ _ 131 3 3 rfl hM law3 Try.underlying131 hz rfl rfl Hkey.out Hr.out Ho.out ?_) | (at_mapUpdate; refine wp_store (val := .int .i64 (m : Int)) rfl _ _ _ 131 3 3 rfl hM law3 Try.underlying131 hmx rfl rfl rfl Hkey.out ?_; intro w2 hM2 hg2; rw [Ho.out] at hM2; have HM2 := Aside0.mk hM2; have hC2 := Aside0.mk (Chg.of_grown (F := fun k => k = w.heap.size) hg2 (fun k hk => by cases hk; rfl)); have HS2 := Aside0.mk (rows2_step HS.out hC2.out (fun k hk => by subst hk; exact .inr hM.at_block)); have HU2 := Aside0.mk (hU.chg hC2.out (fun k hf e => by have := HF.out k hf; omega)); have hWb2 : w.heap.size ≤ w2.heap.size := Nat.le_trans hC.size hC2.out.size; clear hM2 hg2) | (at_builtin; refine Kd.S_append (Kd.slice 3 (Kd.int .i64)) (w0 := w2) w.heap.size rfl (.tmp 34) (.tmp 35) 47 22 (.slice none 0 0) 24 rfl Try.underlying47 info22 rfl (by decide) (by decide) (.slice Ao m co) (classUp hs hh) [] [.slice none 0 0] (fun _ => True) (fun _ => False) rfl rfl ⟨_, rfl, Kd.R_nil _ _ _ _ _⟩ (fun _ hk => hk.elim) (fun _ _ => trivial) (Kd.S_mono HS2.out (fun _ _ => ⟨trivial, fun h => h⟩)) (Below.refl _ _) (Nat.le_trans hC.size hC2.out.size) (by rw [Hcl.out]; omega) ?_; intro v3 w3 hS3 hB3 hg3 hat3; have hl3 : (classUp hs hh ++ [[]]).length = m + 1 := (by simp [Hcl.out]); have hrow3 : (classUp hs hh ++ [[]]).getD m [] = [] := (by simp [List.getD_eq_getElem?_getD, Hcl.out]); obtain ⟨g, cap, hv3, hg0, hg1, cellsg, hgc⟩ := Kd.S_form hS3 (by rw [hl3]; omega); subst hv3; rw [hl3] at hS3 ⊢; obtain ⟨oki, cs, hcl3, hMi, hcc, hfr, hoki, hH⟩ := Kd.S_elem hS3 ([] : List Int) (m : Int) (by omega) (by omega); obtain ⟨vi, rfl, hvi⟩ := hMi; rw [Int.toNat_natCast, hrow3] at hvi; obtain ⟨Ai, ci, hvi2, _, _⟩ := Kd.R_reads hvi; subst hvi2; have d3 := hcc 0 _ rfl; have z3 := hfr 0; rw [show ((m : Nat) : Int).toNat * (Kd.slice 3 (Kd.int .i64)).sz + 0 = m from by simp [Kd.slice]] at d3 z3; have hviA := Aside0.mk (Kd.R_mono (ok' := fun k => oki k ∨ (True ∧ (w3.alloc (.cells #[.int .i64 (hh : Int)] 3)).heap.size ≤ k)) (Kd.R_below hvi (below_alloc (Below.refl _ _) (.cells #[.int .i64 (hh : Int)] 3))) (fun k hk => .inl hk)); have HH := Aside0.mk hH; have Hoki := Aside0.mk hoki; have Hgc := Aside0.mk hgc; clear hcc hfr hvi hH hoki hgc hcl3; have hWb : w.heap.size ≤ w3.heap.size := Nat.le_trans hWb2 (Nat.le_trans (by simp) hg3.size); have HB3 := Aside0.mk hB3; have Hg3 := Aside0.mk hg3; clear hS3 hB3 hg3 hat3) | (at_builtin; refine Kd.R_append_row (Value.int .i64) (0 : Int) (h1 := fun _ => rfl) (w0 := w3) w.heap.size rfl (.tmp 42) (.tmp 44) 22 3 (.int .i64 0) 8 rfl Try.underlying22 info3 rfl (by decide) (.slice Ai 0 ci) ([]) [(hh : Int)] (some ⟨w3.heap.size, 0, none⟩) 1 1 (fun k => oki k ∨ (True ∧ (w3.alloc (.cells #[.int .i64 (hh : Int)] 3)).heap.size ≤ k)) rfl rfl (fun k hk => .inr ⟨trivial, hk⟩) hviA.out (RdI.one (by simp)).out (below_alloc_at _ _ _ hWb) (Nat.le_trans hWb (by simp)) (by simp) ?_; intro v4 w4 hR4 hB4 hg4 hat4; obtain ⟨A4, c4, hv4, _, _⟩ := Kd.R_reads hR4; obtain ⟨n4, hn4⟩ : ∃ n, ([] ++ [(hh : Int)]).length = n := ⟨_, rfl⟩; rw [hn4] at hv4; subst hv4; have hbg := Aside0.mk (blk_grown (w := w3.alloc (.cells #[.int .i64 (hh : Int)] 3)) (Qu.blk_below Hgc.out (below_alloc (Below.refl _ _) _)) hg4 (fun e => (hviA.out.1 g e.symm).elim (fun h => (Hoki.out g h).2 rfl) (fun h => by have := h.2; simp at this; omega))); have e4 : w4.cell? ⟨g, m, none⟩ = some (.slice Ai 0 ci) := (cell_of_row w4 g m _ 22 (0, 0) hbg.out).trans ((cell_of_row w3 g m _ 22 (0, 0) Hgc.out).symm.trans d3); have z4 := blk_frozen hbg.out m; have HR4 := Aside0.mk hR4; have HB4 := Aside0.mk hB4; have Hg4 := Aside0.mk hg4; clear hR4 hB4 hg4 hat4 hn4))
        have hU3 := HU2.out.chg (Chg.of_grown (F := fun k => w.heap.size ≤ k) Hg3.out (fun k hk => Kd.S_base HS2.out k hk)) (fun k hf hk => by have := HF.out k hf; omega)
        have hM3 := map_far HM2.out (fun k hk => by obtain ⟨c, hc⟩ := Kd.S_typed HS2.out k hk; exact ⟨c, 22, hc⟩) Hg3.out
        have hC3 := ((hC.then_ hC2.out (fun k hk => .inr (by omega))).then_ (Chg.of_grown (F := fun k => w.heap.size ≤ k) Hg3.out (fun k hk => Kd.S_base HS2.out k hk)) (fun k hk => .inr hk))
        obtain ⟨r1, r2, r3, r4⟩ := classes_put HF.out hM3 hU3 hC3 HH.out (by omega) Hoki.out hg0 Hgc.out hviA.out Hg4.out HR4.out
        refine ⟨⟨hh + 1, upd f (natLit hh) (some (.int .i64 (m : Int))), by go_num, by omega, ?_, ?_, ?_, r3, r4⟩, by simp [intOf]; omega⟩
        · rw [Hcls.out]; exact r1
        · have hlm : (headsUp hs (hh + 1)).length = m + 1 := by rw [← classUp_len, Hcls.out, List.length_set]; exact hl3
          rw [hlm]; exact r2
        · rw [hHn.out]; exact ⟨hD2.out⟩
      · have hlt2 : hh < j := by omega
        obtain ⟨q1, q2, q3⟩ := class_old E1.out hlt2 E3.out
        have hm : hh ∈ headsUp hs j := mem_headsUp.2 ⟨hlt2, E3.out⟩
        rw [if_pos hm] at hf
        have hHo := Aside0.mk (headsUp_old (show rd hs j ≠ (j : Int) by rw [E1.out]; omega))
        have hmb := List.length_filter_le (fun (k : Nat) => decide (rd hs k = (hh : Int))) (List.range j)
        have hml : (membersUp hs j hh).length ≤ 100000 := by unfold membersUp; rw [List.length_map]; rw [List.length_range] at hmb; omega
        generalize place (headsUp hs j) hh = ix at *
        generalize hmr : membersUp hs j hh = mrow at *
        have hr : (f (natLit hh)).getD (.int .i64 0) = .int .i64 (ix : Int) := by rw [hf]; rfl
        have ho : (f (natLit hh)).isSome = true := by rw [hf]; rfl
        have Hr := Aside0.mk hr
        have Ho := Aside0.mk ho
        have Q3 := Aside0.mk q3
        have hS3 := HS.out
        clear hr ho hf hmb hm q3 hmr
        obtain ⟨ml, hmlen⟩ : ∃ n, mrow.length = n := ⟨_, rfl⟩
        rw [hmlen] at hml
        have hl3 : (classUp hs j).length = (headsUp hs j).length := Hcl.out
        rw [hl3] at q1
        generalize (headsUp hs j).length = m at *
        obtain ⟨g, cap, hv3, hg0, hg1, cellsg, hgc⟩ := Kd.S_form hS3 (by rw [hl3]; omega)
        rw [hl3] at hv3
        injection hv3 with hv3a hv3b hv3c
        subst hv3a
        subst hv3c
        obtain ⟨oki, cs, hcl3, hMi, hcc, hfr, hoki, hH⟩ := Kd.S_elem hS3 ([] : List Int) (ix : Int) (by omega) (by omega)
        obtain ⟨vi, rfl, hvi⟩ := hMi
        rw [Int.toNat_natCast, q2] at hvi
        obtain ⟨Ai, ci, hvi2, _, _⟩ := Kd.R_reads hvi
        rw [hmlen] at hvi2
        subst hvi2
        have d3 := hcc 0 _ rfl
        have z3 := hfr 0
        rw [show ((ix : Nat) : Int).toNat * (Kd.slice 3 (Kd.int .i64)).sz + 0 = ix from by simp [Kd.slice]] at d3 z3
        have hviA := Aside0.mk (Kd.R_mono (ok' := fun k => oki k ∨ (True ∧ (W0.alloc (.cells #[.int .i64 (j : Int)] 3)).heap.size ≤ k)) (Kd.R_below hvi (below_alloc (Below.refl _ _) (.cells #[.int .i64 (j : Int)] 3))) (fun k hk => .inl hk))
        have HH := Aside0.mk hH
        have Hoki := Aside0.mk hoki
        have Hgc := Aside0.mk hgc
        have Hmlen := Aside0.mk hmlen
        have hWb : w.heap.size ≤ W0.heap.size := hC.size
        have k0 : (0 : Int) ≤ (ix : Int) := by omega
        have k1 : (ix : Int) < (m : Int) := by omega
        clear hcc hfr hvi hH hoki hgc hcl3 hS3 HS hmlen
        go_wp2_with (first | (at_lookup; refine wp_look_ok rfl _ _ 131 3 3 rfl hM law3 Try.underlying131 hz rfl rfl Hkey.out Hr.out Ho.out ?_) | (at_builtin; refine Kd.R_append_row (Value.int .i64) (0 : Int) (h1 := fun _ => rfl) (w0 := W0) w.heap.size rfl (.tmp 42) (.tmp 44) 22 3 (.int .i64 0) 8 rfl Try.underlying22 info3 rfl (by decide) (.slice Ai ml ci) (mrow) [(j : Int)] (some ⟨W0.heap.size, 0, none⟩) 1 1 (fun k => oki k ∨ (True ∧ (W0.alloc (.cells #[.int .i64 (j : Int)] 3)).heap.size ≤ k)) rfl rfl (fun k hk => .inr ⟨trivial, hk⟩) hviA.out (RdI.one (by simp)).out (below_alloc_at _ _ _ hWb) (Nat.le_trans hWb (by simp)) (by rw [Hmlen.out]; omega) ?_; intro v4 w4 hR4 hB4 hg4 hat4; obtain ⟨A4, c4, hv4, _, _⟩ := Kd.R_reads hR4; obtain ⟨n4, hn4⟩ : ∃ n, (mrow ++ [(j : Int)]).length = n := ⟨_, rfl⟩; rw [hn4] at hv4; subst hv4; have hbg := Aside0.mk (blk_grown (w := W0.alloc (.cells #[.int .i64 (j : Int)] 3)) (Qu.blk_below Hgc.out (below_alloc (Below.refl _ _) _)) hg4 (fun e => (hviA.out.1 g e.symm).elim (fun h => (Hoki.out g h).2 rfl) (fun h => by have := h.2; simp at this; omega))); have e4 : w4.cell? ⟨g, ix, none⟩ = some (.slice Ai ml ci) := (cell_of_row w4 g ix _ 22 (0, 0) hbg.out).trans ((cell_of_row W0 g ix _ 22 (0, 0) Hgc.out).symm.trans d3); have z4 := blk_frozen hbg.out ix; have HR4 := Aside0.mk hR4; have HB4 := Aside0.mk hB4; have Hg4 := Aside0.mk hg4; clear hR4 hB4 hg4 hat4 hn4))
        obtain ⟨r1, r2, r3, r4⟩ := classes_put HF.out hM hU hC HH.out q1 Hoki.out hg0 Hgc.out hviA.out Hg4.out HR4.out
        refine ⟨⟨j + 1, f, by go_num, by omega, ?_, ?_, ?_, r3, r4⟩, by simp [intOf]; omega⟩
        · rw [Q3.out]; exact r1
        · rw [hHo.out, ← classUp_len, hl3]; exact r2
        · rw [hHo.out]; exact hD
    · obtain rfl : j = hs.length := by omega
      obtain ⟨Ao, co, rfl⟩ := Kd.S_slice hS0
      go_wp2
      go_ret
      exact ⟨_, rfl, hS0, hU0, hC0⟩
end Go.Proofs.Ytmaoadlighjkpaa.Un
