/- CtxNumbers, walked. -/
import Derived.Test.YtmaoadlighjkpaaKc
import Derived.Deep.RegionHeld3
namespace Go.Proofs.Ytmaoadlighjkpaa.Kx
open Go.RowKit Go.Proofs.YtmaoadlighjkpaaW.PrintWords Go.Proofs.YtmaoadlighjkpaaW.PrintLast Go.Proofs.YtmaoadlighjkpaaW.PrintMore
open Go.Proofs.Ytmaoadlighjkpaa.Base Go.Proofs.Ytmaoadlighjkpaa.Map Go.Proofs.Ytmaoadlighjkpaa.Ca Go.Proofs.Ytmaoadlighjkpaa.Qu Go.Proofs.Ytmaoadlighjkpaa.In Go.Maps
open Go.Proofs.Ytmaoadlighjkpaa.PCtxNumbers
set_option linter.unusedVariables false

def fO (x : S26) : List Int := x.f0 :: x.f1
/-- what the law knows of its two lists -/
structure Lists (os cs : List S26) (cl ol : List (List Int)) (n : Nat) : Prop where
  eo : ol = os.map fO
  ec : cl = cs.map (·.f1)
  z : ∀ x ∈ cs, x.f0 = 0
  lo : ∀ x ∈ os, x.f1.length ≤ 3
  lc : ∀ x ∈ cs, x.f1.length ≤ 3
  no : ol.Nodup
  nc : cl.Nodup
  bo : os.length ≤ n
  bc : cs.length ≤ n

theorem Lists.more {os cs : List S26} {cl ol : List (List Int)} {n m : Nat} (h : Lists os cs cl ol n) (hm : n ≤ m) : Lists os cs cl ol m := ⟨h.eo, h.ec, h.z, h.lo, h.lc, h.no, h.nc, Nat.le_trans h.bo hm, Nat.le_trans h.bc hm⟩
theorem CN.held {w0 w : World} {q p1 p2 : Nat} {cl ol : List (List Int)} {vo vc : Value} {os cs : List S26} {b : Nat} {v0 v1 : Value} {bs : List (Nat × Obj)} (h : CN w0 w q p1 p2 cl ol vo vc os cs ((b, .cells #[v0, v1] 26 (0, 0)) :: bs)) :
    w.cell? ⟨q, 0, none⟩ = some (.pointer (some ⟨p1, 0, none⟩)) ∧ w.cell? ⟨q, 1, none⟩ = some (.pointer (some ⟨p2, 0, none⟩)) ∧ w.cell? ⟨b, 0, none⟩ = some v0 ∧ w.cell? ⟨b, 1, none⟩ = some v1 := by
  have hb := h.in_ (List.mem_cons_self ..)
  exact ⟨h.at_.1, h.at_.2, blk_cell hb 0, blk_cell hb 1⟩
theorem CN.held2 {w0 w : World} {q p1 p2 : Nat} {cl ol : List (List Int)} {vo vc : Value} {os cs : List S26} {b b' : Nat} {v0 v1 z0 z1 : Value} {bs : List (Nat × Obj)} (h : CN w0 w q p1 p2 cl ol vo vc os cs ((b', .cells #[z0, z1] 26 (0, 0)) :: (b, .cells #[v0, v1] 26 (0, 0)) :: bs)) :
    w.cell? ⟨b, 0, none⟩ = some v0 ∧ w.cell? ⟨b, 1, none⟩ = some v1 ∧ w.cell? ⟨b', 0, none⟩ = some z0 ∧ w.cell? ⟨b', 1, none⟩ = some z1 := by
  have hb := h.in_ (b := b) (o := .cells #[v0, v1] 26 (0, 0)) (by simp)
  have hb' := h.in_ (b := b') (o := .cells #[z0, z1] 26 (0, 0)) (by simp)
  exact ⟨blk_cell hb 0, blk_cell hb 1, blk_cell hb' 0, blk_cell hb' 1⟩
theorem fO_iff (x : S26) (s : Int) (ns : List Int) : (x.f0 = s ∧ x.f1 = ns) ↔ fO x = s :: ns := by simp [fO]
theorem fC_iff (x : S26) (ns : List Int) (h : x.f0 = 0) : (x.f0 = 0 ∧ x.f1 = ns) ↔ x.f1 = ns := ⟨fun e => e.2, fun e => ⟨h, e⟩⟩
theorem findK_at {w0 : World} {q p1 p2 : Nat} {cl ol : List (List Int)} {vo vc : Value} {os cs : List S26} {bs : List (Nat × Obj)} (A : Option Addr) (c : Nat) (xs : List S26) (s : Int) (u : Value) (ns : List Int) (g : S26 → List Int) (key : List Int) (w : World) (hQ : CN w0 w q p1 p2 cl ol vo vc os cs bs) (hr : Kd.R (kF w0) 26 w w0.heap.size (fun _ => True) (.slice A xs.length c) xs) (hu : RdV w u ns) (hg : ∀ x ∈ xs, (x.f0 = s ∧ x.f1 = ns) ↔ g x = key) (hB : ∀ x ∈ xs, x.f1.length ≤ 3) (hm : xs.length ≤ 1000000) :
    Calls Try.prog 58 #[.slice A xs.length c, .agg #[.int .i64 s, u]] w fun e w' => e = .returned (.int .i64 (seekK (xs.map g) key)) ∧ Below w.heap.size w w' := by
  obtain ⟨_, h2, h3⟩ := row_rd hr hQ.bel
  exact findK_any A c xs s u ns g key w h3 h2 hu hg 3 hB (by omega) hm
theorem info26 : (Try.prog.info? 26).map (fun i => (i.zero, i.size, i.bytes)) = some (some (.agg #[.int .i64 0, .slice none 0 0]), 2, 32) := by kernel_rfl
/-- what the two lists say of one that is asked for -/
theorem lists_o {os cs : List S26} {cl ol : List (List Int)} {n : Nat} (h : Lists os cs cl ol n) (s : Int) (ns : List Int) (h3 : ns.length ≤ 3) :
    (s :: ns ∈ ol → seekK (os.map fO) (s :: ns) = (place ol (s :: ns) : Int) ∧ objId ol s ns = (place ol (s :: ns) : Int) ∧ objT ol s ns = ol) ∧
    (s :: ns ∉ ol → seekK (os.map fO) (s :: ns) = -1 ∧ objId ol s ns = (os.length : Int) ∧ objT ol s ns = ol ++ [s :: ns]) := by
  have hl : ¬ 3 < ns.length := by omega
  have hl2 : ¬ 8 < (s :: ns).length := by simp; omega
  constructor
  · intro hm
    refine ⟨by unfold seekK; rw [← h.eo, if_pos hm], ?_, ?_⟩
    · unfold objId idOf; rw [if_neg hl, if_neg hl2]
    · unfold objT idL; rw [if_neg hl, if_pos (.inr hm)]
  · intro hm
    refine ⟨by unfold seekK; rw [← h.eo, if_neg hm], ?_, ?_⟩
    · unfold objId idOf; rw [if_neg hl, if_neg hl2, place_new hm, h.eo, List.length_map]
    · unfold objT idL; rw [if_neg hl, if_neg (by rintro (h | h); exact hl2 h; exact hm h)]
theorem lists_c {os cs : List S26} {cl ol : List (List Int)} {n : Nat} (h : Lists os cs cl ol n) (ns : List Int) (h3 : ns.length ≤ 3) :
    (ns ∈ cl → seekK (cs.map (·.f1)) ns = (place cl ns : Int) ∧ ctxId cl ns = (place cl ns : Int) ∧ ctxT cl ns = cl) ∧
    (ns ∉ cl → seekK (cs.map (·.f1)) ns = -1 ∧ ctxId cl ns = (cs.length : Int) ∧ ctxT cl ns = cl ++ [ns]) := by
  have hl : ¬ 3 < ns.length := by omega
  have hl2 : ¬ 8 < ns.length := by omega
  constructor
  · intro hm
    refine ⟨by unfold seekK; rw [← h.ec, if_pos hm], ?_, ?_⟩
    · unfold ctxId idOf; rw [if_neg hl, if_neg hl2]
    · unfold ctxT idL; rw [if_neg hl, if_pos (.inr hm)]
  · intro hm
    refine ⟨by unfold seekK; rw [← h.ec, if_neg hm], ?_, ?_⟩
    · unfold ctxId idOf; rw [if_neg hl, if_neg hl2, place_new hm, h.ec, List.length_map]
    · unfold ctxT idL; rw [if_neg hl, if_neg (by rintro (h | h); exact hl2 h; exact hm h)]
theorem nodup_snoc {α : Type} {l : List α} {x : α} (h : l.Nodup) (hx : x ∉ l) : (l ++ [x]).Nodup := by
  refine List.nodup_append.2 ⟨h, by simp, fun a ha b hb e => ?_⟩
  rw [List.mem_singleton.1 hb] at e
  exact hx (e ▸ ha)
theorem Lists.pushO {os cs : List S26} {cl ol : List (List Int)} {n : Nat} (h : Lists os cs cl ol n) (s : Int) (ns : List Int) (h3 : ns.length ≤ 3) (hm : s :: ns ∉ ol) : Lists (os ++ [⟨s, ns⟩]) cs cl (ol ++ [s :: ns]) (n + 1) :=
  ⟨by rw [h.eo, List.map_append]; rfl, h.ec, h.z, fun x hx => by rcases List.mem_append.1 hx with hx | hx; exact h.lo x hx; rw [List.mem_singleton.1 hx]; exact h3, h.lc, nodup_snoc h.no hm, h.nc, by rw [List.length_append]; have := h.bo; simp; omega, by have := h.bc; omega⟩
theorem Lists.pushC {os cs : List S26} {cl ol : List (List Int)} {n m : Nat} (h : Lists os cs cl ol n) (ns : List Int) (h3 : ns.length ≤ 3) (hm : ns ∉ cl) (hn : cs.length + 1 ≤ m) (hnm : n ≤ m) : Lists os (cs ++ [⟨0, ns⟩]) (cl ++ [ns]) ol m :=
  ⟨h.eo, by rw [h.ec, List.map_append]; rfl, fun x hx => by rcases List.mem_append.1 hx with hx | hx; exact h.z x hx; rw [List.mem_singleton.1 hx], h.lo, fun x hx => by rcases List.mem_append.1 hx with hx | hx; exact h.lc x hx; rw [List.mem_singleton.1 hx]; exact h3, h.no, nodup_snoc h.nc hm, by have := h.bo; omega, by rw [List.length_append]; simpa using hn⟩

theorem tup_o {os cs : List S26} {cl ol : List (List Int)} {n : Nat} (h : Lists os cs cl ol n) (j : Nat) (hj : j < os.length) : tupleOf ol (j : Int) = (rd_T26 os (j : Int)).f0 :: (rd_T26 os (j : Int)).f1 := by
  have e : rd_T26 os (j : Int) = os[j] := by unfold rd_T26; rw [Int.toNat_natCast, List.getD_eq_getElem?_getD, List.getElem?_eq_getElem hj]; rfl
  rw [e]
  unfold tupleOf
  rw [h.eo, if_pos (by rw [List.length_map]; omega), Int.toNat_natCast, List.getD_eq_getElem?_getD, List.getElem?_map, List.getElem?_eq_getElem hj]
  rfl
theorem tup_c {os cs : List S26} {cl ol : List (List Int)} {n : Nat} (h : Lists os cs cl ol n) (j : Nat) (hj : j < cs.length) : tupleOf cl (j : Int) = (rd_T26 cs (j : Int)).f1 := by
  have e : rd_T26 cs (j : Int) = cs[j] := by unfold rd_T26; rw [Int.toNat_natCast, List.getD_eq_getElem?_getD, List.getElem?_eq_getElem hj]; rfl
  rw [e]
  unfold tupleOf
  rw [h.ec, if_pos (by rw [List.length_map]; omega), Int.toNat_natCast, List.getD_eq_getElem?_getD, List.getElem?_map, List.getElem?_eq_getElem hj]
  rfl
theorem tup_end {os cs : List S26} {cl ol : List (List Int)} {n : Nat} (h : Lists os cs cl ol n) : tupleOf cl (cs.length : Int) = [] := by
  unfold tupleOf
  rw [h.ec, if_neg (by rw [List.length_map]; omega)]
theorem tup_id {os cs : List S26} {cl ol : List (List Int)} {n : Nat} (h : Lists os cs cl ol n) (id : Int) (h0 : 0 ≤ id) (h1 : id < os.length) : ∃ s ns, tupleOf ol id = s :: ns := by
  have := tup_o h id.toNat (by omega)
  rw [Int.toNat_of_nonneg h0] at this
  exact ⟨_, _, this⟩

set_option maxHeartbeats 8000000 in
set_option maxRecDepth 100000 in
theorem ctxNumbers_walk (l : List S26) (id : Int) (A : Option Addr) (c : Nat) (w : World) (hc : l.length ≤ c) (hr : Kd.C k26 w A l.length l) (hok : ∀ x ∈ l, (Lit.int .i64 x.f0).wf = true ∧ ∀ y ∈ x.f1, (Lit.int .i64 y).wf = true) :
    Calls Try.prog 15 #[.slice A l.length c, .int .i64 id] w fun e w' => e = .returned (.bool true) ∧ Below w.heap.size w w' := by
  have hmax := Kd.C_max hr
  by_cases h40 : (40 : Int) < l.length
  · go_enter Try.func15, Try.ntmps15
    go_wp2_with fail
    refine (Ca.awake_any _).mono ?_
    rintro e w1 ⟨rfl, h1⟩
    go_wp2_with fail
    refine (Ca.awake_any _).mono ?_
    rintro e w2 ⟨rfl, h2⟩
    go_wp2
    go_ret
    exact ⟨rfl, bel_trans h1 h2⟩
  · have Hc := Aside0.mk hc
    have Hok := Aside0.mk hok
    clear hc hok
    go_enter Try.func15, Try.ntmps15
    go_wp2_with fail
    refine (Ca.awake_any _).mono ?_
    rintro e w1 ⟨rfl, h1⟩
    go_wp2_with fail
    refine (new_cn w w1 h1).mono ?_
    rintro e w2 ⟨q, p1, p2, rfl, h2⟩
    clear h1
    go_wp2_with fail
    go_loopw [8, 6, 7] (fun I vo vc wr => ∃ (i : Nat) (os cs : List S26) (cl ol : List (List Int)) (A1 A2 : Option Addr) (c1 c2 : Nat), I = .int .i64 (i : Int) ∧ vo = .slice A1 os.length c1 ∧ vc = .slice A2 cs.length c2 ∧ i ≤ l.length ∧ Aside0 (Lists os cs cl ol i) ∧ CN w wr q p1 p2 cl ol (.slice A1 os.length c1) (.slice A2 cs.length c2) os cs []) (fun I _ _ _ => l.length - (intOf I).toNat)
    case atStart => exact ⟨0, [], [], [], [], none, none, 0, 0, rfl, rfl, rfl, Nat.zero_le _, ⟨⟨rfl, rfl, by simp, by simp, by simp, List.nodup_nil, List.nodup_nil, Nat.le_refl _, Nat.le_refl _⟩⟩, h2⟩
    case round =>
      clear h2
      obtain ⟨i, os, cs, cl, ol, A1, A2, c1, c2, rfl, rfl, rfl, hi, hL, hQ⟩ := hrel
      by_cases hlt : i < l.length
      · obtain ⟨ad, B1, d1, hA, k0, k1, hd1, hC1⟩ := at_T26 hr (i : Int) (by omega) (by omega)
        have hmem : rd_T26 l (i : Int) ∈ l := by unfold rd_T26; rw [Int.toNat_natCast, List.getD_eq_getElem?_getD, List.getElem?_eq_getElem hlt]; exact List.getElem_mem hlt
        obtain ⟨wf0, wf1⟩ := Hok.out _ hmem
        have hB := hQ.bel
        have hU := RdI.toV ⟨hC1⟩ hd1
        rw [Int.toNat_natCast] at k0 k1
        generalize (rd_T26 l (i : Int)).f0 = s at *
        generalize (rd_T26 l (i : Int)).f1 = ns at *
        have k0 := pw_cell_below (w := w) hB k0
        have k1 := pw_cell_below (w := w) hB k1
        subst hA
        have i0 : (0 : Int) ≤ (i : Int) := by omega
        have i1 : (i : Int) < (l.length : Int) := by omega
        have Wf0 := Aside0.mk wf0
        have Wf1 := Aside0.mk wf1
        have Hd1 := Aside0.mk hd1
        have HC1 := Aside0.mk hC1
        clear hmem wf0 wf1 hC1 hd1
        by_cases h10 : (10 : Int) < ns.length
        · go_wp2
          go_ret
          exact ⟨rfl, by simp [*]⟩
        · by_cases h3 : (3 : Int) < ns.length
          · have e1 : objId ol s ns = -1 := by unfold objId; rw [if_pos (by omega)]
            have e2 : objT ol s ns = ol := by unfold objT; rw [if_pos (by omega)]
            have e3 : ctxId cl ns = -1 := by unfold ctxId; rw [if_pos (by omega)]
            have e4 : ctxT cl ns = cl := by unfold ctxT; rw [if_pos (by omega)]
            have E1 := Aside0.mk e1
            have E2 := Aside0.mk e2
            have E3 := Aside0.mk e3
            have E4 := Aside0.mk e4
            have hbo : ol.length ≤ 1000000 := by have := hL.out.eo; have := hL.out.bo; rw [hL.out.eo, List.length_map]; omega
            have hbc : cl.length ≤ 1000000 := by have := hL.out.bc; rw [hL.out.ec, List.length_map]; omega
            clear e1 e2 e3 e4
            go_wp2_with fail
            have h1 := hQ.box (below_alloc (Below.refl _ _) (.cells #[.int .i64 s, .slice B1 ns.length d1] 26)) (heap_alloc_new _ _) (Nat.le_refl _)
            clear hQ k0 k1 hB
            generalize wr.alloc (.cells #[.int .i64 s, .slice B1 ns.length d1] 26) = W1 at *
            generalize wr.heap.size = b9 at *
            have h2 := h1.drew
            obtain ⟨c0, c1', c2', c3'⟩ := h2.held
            go_region_held3 (fun W => W.cell? ⟨q, 0, none⟩ = some (.pointer (some ⟨p1, 0, none⟩)) ∧ W.cell? ⟨q, 1, none⟩ = some (.pointer (some ⟨p2, 0, none⟩)) ∧ W.cell? ⟨b9, 0, none⟩ = some (.int .i64 s) ∧ W.cell? ⟨b9, 1, none⟩ = some (.slice B1 ns.length d1)) (first | exact h6.held | exact h5.held | exact h2.held)
             (first | (go_at_call 56; refine (obj_cn w _ q p1 p2 cl ol _ _ os cs _ s _ ns h2 (hU.below h2.bel) Wf0.out Wf1.out hbo).mono ?_; rintro e w5 ⟨rfl, h5⟩; rw [E2.out] at h5; rw [E1.out]) | (go_at_call 57; refine (ctx_cn w _ q p1 p2 cl ol _ _ os cs _ _ ns h5 (hU.below h5.bel) Wf1.out hbc).mono ?_; rintro e w6 ⟨rfl, h6⟩; rw [E4.out] at h6; rw [E3.out]) | (fail))
            all_goals (clear c0 c1' c2' c3'; go_wp2_with fail; go_roundw)
            case rel => exact ⟨i + 1, os, cs, cl, ol, A1, A2, c1, c2, by go_num, rfl, rfl, by omega, ⟨hL.out.more (by omega)⟩, h6.few (by simp)⟩
            case measure => simp [intOf]; omega
          · have h3' : ns.length ≤ 3 := by omega
            obtain ⟨lo1, lo2⟩ := lists_o hL.out s ns h3'
            obtain ⟨lc1, lc2⟩ := lists_c hL.out ns h3'
            have hbo : ol.length ≤ 1000000 := by have := hL.out.bo; rw [hL.out.eo, List.length_map]; omega
            have hbc : cl.length ≤ 1000000 := by have := hL.out.bc; rw [hL.out.ec, List.length_map]; omega
            have hbo2 : os.length ≤ i := hL.out.bo
            have hbc2 : cs.length ≤ i := hL.out.bc
            go_wp2_with fail
            have h1 := (hQ.box (below_alloc (Below.refl _ _) (.cells #[.int .i64 s, .slice B1 ns.length d1] 26)) (heap_alloc_new _ _) (Nat.le_refl _)).box (below_alloc (Below.refl _ _) (.cells #[.int .i64 0, .slice B1 ns.length d1] 26)) (heap_alloc_new _ _) (Nat.le_refl _)
            rw [show (wr.alloc (.cells #[.int .i64 s, .slice B1 ns.length d1] 26)).heap.size = wr.heap.size + 1 from by simp] at h1
            clear hQ k0 k1 hB
            generalize (wr.alloc (.cells #[.int .i64 s, .slice B1 ns.length d1] 26)).alloc (.cells #[.int .i64 0, .slice B1 ns.length d1] 26) = W1 at *
            generalize wr.heap.size = b9 at *
            have h2 := h1.drew
            obtain ⟨_, _, t0, t1⟩ := h2.held
            have h2s := h2.few (bs' := [(b9, .cells #[.int .i64 s, .slice B1 ns.length d1] 26 (0, 0))]) (by simp)
            obtain ⟨q0, q1, u0, u1⟩ := h2s.held
            obtain ⟨_, hcA1, hCo⟩ := row_rd h2.rows.1 h2.bel
            obtain ⟨_, hcA2, hCc⟩ := row_rd h2.rows.2 h2.bel
            clear hcA1 hcA2
            go_region_held3 (fun W => W.cell? ⟨b9, 0, none⟩ = some (.int .i64 s) ∧ W.cell? ⟨b9, 1, none⟩ = some (.slice B1 ns.length d1) ∧ W.cell? ⟨b9 + 1, 0, none⟩ = some (.int .i64 0) ∧ W.cell? ⟨b9 + 1, 1, none⟩ = some (.slice B1 ns.length d1)) (first | exact h4.held2 | exact h3x.held2 | exact h2.held2)
             (first | (go_at_call 58; with_reducible refine (findK_at A1 c1 os s _ ns fO (s :: ns) _ h2 (h2.rows.1) (hU.below h2.bel) (fun x hx => fO_iff x s ns) (fun x hx => hL.out.lo x hx) (by omega)).mono ?_; rintro e w5 ⟨rfl, r5⟩; have h3x := h2.below r5) | (go_at_call 58; with_reducible refine (findK_at A2 c2 cs 0 _ ns (·.f1) ns _ h3x (h3x.rows.2) (hU.below h3x.bel) (fun x hx => fC_iff x ns (hL.out.z x hx)) (fun x hx => hL.out.lc x hx) (by omega)).mono ?_; rintro e w6 ⟨rfl, r6⟩; have h4 := h3x.below r6) | (fail))
            all_goals clear t0 t1 u0 u1 q0 q1 hCo hCc
            obtain ⟨_, _, t0, t1⟩ := h4.held
            have h4s := h4.few (bs' := [(b9, .cells #[.int .i64 s, .slice B1 ns.length d1] 26 (0, 0))]) (by simp)
            obtain ⟨q0, q1, u0, u1⟩ := h4s.held
            clear h1 h2 h2s h3x r5 r6
            by_cases mo : s :: ns ∈ ol
            · by_cases mc : ns ∈ cl
              · obtain ⟨z1, z2, z3⟩ := lo1 mo
                rw [z1]
                have Z2 := Aside0.mk z2
                have Z3 := Aside0.mk z3
                generalize place ol (s :: ns) = pa at *
                have pa0 : ¬ (pa : Int) < 0 := by omega
                have Hol := Aside0.mk (show (ol.length : Int) = (os.length : Int) by rw [hL.out.eo, List.length_map])
                obtain ⟨y1, y2, y3⟩ := lc1 mc
                rw [y1]
                have Y2 := Aside0.mk y2
                have Y3 := Aside0.mk y3
                generalize place cl ns = pc at *
                have pc0 : ¬ (pc : Int) < 0 := by omega
                have H4 := Aside0.mk h4
                clear z2 z3 y2 y3 lo1 lo2 lc1 lc2 h4s
                go_wp2_with fail
                have hP := (H4.out.few (bs' := [(b9, .cells #[.int .i64 s, .slice B1 ns.length d1] 26 (0, 0))]) (by simp)).drew
                obtain ⟨x0, x1, x2, x3⟩ := hP.held
                go_region_held3 (fun W => W.cell? ⟨q, 0, none⟩ = some (.pointer (some ⟨p1, 0, none⟩)) ∧ W.cell? ⟨q, 1, none⟩ = some (.pointer (some ⟨p2, 0, none⟩)) ∧ W.cell? ⟨b9, 0, none⟩ = some (.int .i64 s) ∧ W.cell? ⟨b9, 1, none⟩ = some (.slice B1 ns.length d1)) (first | exact hZ.held | exact hY.held | exact hX.held | exact hP.held)
                 (first | (go_at_call 56; refine (obj_cn w _ q p1 p2 cl ol _ _ os cs _ s _ ns hP (hU.below hP.bel) Wf0.out Wf1.out hbo).mono ?_; rintro e wX ⟨rfl, hX⟩; rw [Z3.out] at hX; rw [Z2.out]) | (go_at_call 57; refine (ctx_cn w _ q p1 p2 cl ol _ _ os cs _ _ ns hX (hU.below hX.bel) Wf1.out hbc).mono ?_; rintro e wY ⟨rfl, hY⟩; rw [Y3.out] at hY; rw [Y2.out]) | (go_at_call 59; obtain ⟨GG, hGG⟩ := hY.tabs.2; refine (objects_any p2 GG [] ol _ hGG).mono ?_; rintro e wZ ⟨rfl, rZ⟩; have hZ := hY.below rZ; rw [Hol.out]) | (fail))
                all_goals (clear x0 x1 x2 x3 hP hX hY; go_wp2_with fail; go_roundw)
                case rel => exact ⟨i + 1, os, cs, cl, ol, A1, A2, c1, c2, by go_num, rfl, rfl, by omega, ⟨hL.out.more (by omega)⟩, hZ.few (by simp)⟩
                case measure => simp [intOf]; omega
              · obtain ⟨z1, z2, z3⟩ := lo1 mo
                rw [z1]
                have Z2 := Aside0.mk z2
                have Z3 := Aside0.mk z3
                generalize place ol (s :: ns) = pa at *
                have pa0 : ¬ (pa : Int) < 0 := by omega
                have Hol := Aside0.mk (show (ol.length : Int) = (os.length : Int) by rw [hL.out.eo, List.length_map])
                obtain ⟨y1, y2, y3⟩ := lc2 mc
                rw [y1]
                have Y2 := Aside0.mk y2
                obtain ⟨cs', hcs'⟩ : ∃ x, cs ++ [(⟨0, ns⟩ : S26)] = x := ⟨_, rfl⟩
                obtain ⟨cl', hcl'⟩ : ∃ x, cl ++ [ns] = x := ⟨_, rfl⟩
                rw [hcl'] at y3
                have Y3 := Aside0.mk y3
                have Hcs := Aside0.mk hcs'
                have Hcl' := Aside0.mk hcl'
                clear hcs' hcl'
                have H4 := Aside0.mk h4
                clear z2 z3 y2 y3 lo1 lo2 lc1 lc2 h4s
                go_wp2_with (first | (at_builtin; refine Kd.R_append (kF w) (w0 := w6) w.heap.size rfl (.tmp 85) (.tmp 87) 88 26 (.agg #[.int .i64 0, .slice none 0 0]) 32 rfl Try.underlying88 info26 rfl Nat.zero_lt_two (by decide) (.slice A2 cs.length c2) cs ⟨0, ns⟩ [.int .i64 0, .slice B1 ns.length d1] (fun _ => True) (fun _ => False) rfl rfl (k26_mk w ⟨0, ns⟩ Hd1.out HC1.out) (fun _ hk => hk.elim) (fun _ _ => trivial) H4.out.rows.2 (Below.refl _ _) H4.out.bel.size (by omega) ?_; intro v8 w8 R8 B8 g8 at8; rw [Hcs.out] at R8; have H8 := Aside0.mk (H4.out.pushC R8 g8 at8); obtain ⟨A8, c8, rfl, _, _⟩ := Kd.R_reads R8; obtain ⟨n0, n1, n2, n3⟩ := H8.out.held2; obtain ⟨n4, n5, _, _⟩ := H8.out.held; clear R8 B8 g8 at8))
                have hP := (H8.out.few (bs' := [(b9, .cells #[.int .i64 s, .slice B1 ns.length d1] 26 (0, 0))]) (by simp)).drew
                obtain ⟨x0, x1, x2, x3⟩ := hP.held
                go_region_held3 (fun W => W.cell? ⟨q, 0, none⟩ = some (.pointer (some ⟨p1, 0, none⟩)) ∧ W.cell? ⟨q, 1, none⟩ = some (.pointer (some ⟨p2, 0, none⟩)) ∧ W.cell? ⟨b9, 0, none⟩ = some (.int .i64 s) ∧ W.cell? ⟨b9, 1, none⟩ = some (.slice B1 ns.length d1)) (first | exact hZ.held | exact hY.held | exact hX.held | exact hP.held)
                 (first | (go_at_call 56; refine (obj_cn w _ q p1 p2 cl ol _ _ os cs' _ s _ ns hP (hU.below hP.bel) Wf0.out Wf1.out hbo).mono ?_; rintro e wX ⟨rfl, hX⟩; rw [Z3.out] at hX; rw [Z2.out]) | (go_at_call 57; refine (ctx_cn w _ q p1 p2 cl ol _ _ os cs' _ _ ns hX (hU.below hX.bel) Wf1.out hbc).mono ?_; rintro e wY ⟨rfl, hY⟩; rw [Y3.out] at hY; rw [Y2.out]) | (go_at_call 59; obtain ⟨GG, hGG⟩ := hY.tabs.2; refine (objects_any p2 GG [] ol _ hGG).mono ?_; rintro e wZ ⟨rfl, rZ⟩; have hZ := hY.below rZ; rw [Hol.out]) | (fail))
                all_goals (clear x0 x1 x2 x3 hP hX hY; go_wp2_with fail; go_roundw)
                case rel => exact ⟨i + 1, os, cs', cl', ol, A1, A8, c1, c8, by go_num, rfl, rfl, by omega, ⟨by rw [← Hcs.out, ← Hcl'.out]; exact hL.out.pushC ns h3' mc (by omega) (by omega)⟩, hZ.few (by simp)⟩
                case measure => simp [intOf]; omega
            · by_cases mc : ns ∈ cl
              · obtain ⟨z1, z2, z3⟩ := lo2 mo
                rw [z1]
                have Z2 := Aside0.mk z2
                obtain ⟨os', hos'⟩ : ∃ x, os ++ [(⟨s, ns⟩ : S26)] = x := ⟨_, rfl⟩
                obtain ⟨ol', hol'⟩ : ∃ x, ol ++ [s :: ns] = x := ⟨_, rfl⟩
                rw [hol'] at z3
                have Z3 := Aside0.mk z3
                have hosl : os'.length = os.length + 1 := by rw [← hos']; simp
                have Hol := Aside0.mk (show (ol'.length : Int) = (os'.length : Int) by rw [← hol', hosl, hL.out.eo]; simp)
                have Hosl := Aside0.mk hosl
                clear hosl
                have Hos := Aside0.mk hos'
                have Hol' := Aside0.mk hol'
                clear hos' hol'
                obtain ⟨y1, y2, y3⟩ := lc1 mc
                rw [y1]
                have Y2 := Aside0.mk y2
                have Y3 := Aside0.mk y3
                generalize place cl ns = pc at *
                have pc0 : ¬ (pc : Int) < 0 := by omega
                have H4 := Aside0.mk h4
                clear z2 z3 y2 y3 lo1 lo2 lc1 lc2 h4s
                go_wp2_with (first | (at_builtin; refine Kd.R_append (kF w) (w0 := w6) w.heap.size rfl (.tmp 77) (.tmp 79) 88 26 (.agg #[.int .i64 0, .slice none 0 0]) 32 rfl Try.underlying88 info26 rfl Nat.zero_lt_two (by decide) (.slice A1 os.length c1) os ⟨s, ns⟩ [.int .i64 s, .slice B1 ns.length d1] (fun _ => True) (fun _ => False) rfl rfl (k26_mk w ⟨s, ns⟩ Hd1.out HC1.out) (fun _ hk => hk.elim) (fun _ _ => trivial) H4.out.rows.1 (Below.refl _ _) H4.out.bel.size (by omega) ?_; intro v7 w7 R7 B7 g7 at7; rw [Hos.out] at R7; have H7 := Aside0.mk (H4.out.pushO R7 g7 at7); obtain ⟨A7, c7, rfl, _, _⟩ := Kd.R_reads R7; obtain ⟨m0, m1, m2, m3⟩ := H7.out.held2; obtain ⟨m4, m5, _, _⟩ := H7.out.held; clear R7 B7 g7 at7 t0 t1 u0 u1 q0 q1))
                have hP := (H7.out.few (bs' := [(b9, .cells #[.int .i64 s, .slice B1 ns.length d1] 26 (0, 0))]) (by simp)).drew
                obtain ⟨x0, x1, x2, x3⟩ := hP.held
                go_region_held3 (fun W => W.cell? ⟨q, 0, none⟩ = some (.pointer (some ⟨p1, 0, none⟩)) ∧ W.cell? ⟨q, 1, none⟩ = some (.pointer (some ⟨p2, 0, none⟩)) ∧ W.cell? ⟨b9, 0, none⟩ = some (.int .i64 s) ∧ W.cell? ⟨b9, 1, none⟩ = some (.slice B1 ns.length d1)) (first | exact hZ.held | exact hY.held | exact hX.held | exact hP.held)
                 (first | (go_at_call 56; refine (obj_cn w _ q p1 p2 cl ol _ _ os' cs _ s _ ns hP (hU.below hP.bel) Wf0.out Wf1.out hbo).mono ?_; rintro e wX ⟨rfl, hX⟩; rw [Z3.out] at hX; rw [Z2.out]) | (go_at_call 57; refine (ctx_cn w _ q p1 p2 cl ol' _ _ os' cs _ _ ns hX (hU.below hX.bel) Wf1.out hbc).mono ?_; rintro e wY ⟨rfl, hY⟩; rw [Y3.out] at hY; rw [Y2.out]) | (go_at_call 59; obtain ⟨GG, hGG⟩ := hY.tabs.2; refine (objects_any p2 GG [] ol' _ hGG).mono ?_; rintro e wZ ⟨rfl, rZ⟩; have hZ := hY.below rZ; rw [Hol.out]) | (fail))
                all_goals (clear x0 x1 x2 x3 hP hX hY; go_wp2_with fail; go_roundw)
                case rel => exact ⟨i + 1, os', cs, cl, ol', A7, A2, c7, c2, by go_num, rfl, rfl, by omega, ⟨by rw [← Hos.out, ← Hol'.out]; exact hL.out.pushO s ns h3' mo⟩, hZ.few (by simp)⟩
                case measure => simp [intOf]; omega
              · obtain ⟨z1, z2, z3⟩ := lo2 mo
                rw [z1]
                have Z2 := Aside0.mk z2
                obtain ⟨os', hos'⟩ : ∃ x, os ++ [(⟨s, ns⟩ : S26)] = x := ⟨_, rfl⟩
                obtain ⟨ol', hol'⟩ : ∃ x, ol ++ [s :: ns] = x := ⟨_, rfl⟩
                rw [hol'] at z3
                have Z3 := Aside0.mk z3
                have hosl : os'.length = os.length + 1 := by rw [← hos']; simp
                have Hol := Aside0.mk (show (ol'.length : Int) = (os'.length : Int) by rw [← hol', hosl, hL.out.eo]; simp)
                have Hosl := Aside0.mk hosl
                clear hosl
                have Hos := Aside0.mk hos'
                have Hol' := Aside0.mk hol'
                clear hos' hol'
                obtain ⟨y1, y2, y3⟩ := lc2 mc
                rw [y1]
                have Y2 := Aside0.mk y2
                obtain ⟨cs', hcs'⟩ : ∃ x, cs ++ [(⟨0, ns⟩ : S26)] = x := ⟨_, rfl⟩
                obtain ⟨cl', hcl'⟩ : ∃ x, cl ++ [ns] = x := ⟨_, rfl⟩
                rw [hcl'] at y3
                have Y3 := Aside0.mk y3
                have Hcs := Aside0.mk hcs'
                have Hcl' := Aside0.mk hcl'
                clear hcs' hcl'
                have H4 := Aside0.mk h4
                clear z2 z3 y2 y3 lo1 lo2 lc1 lc2 h4s
                go_wp2_with (first | (at_builtin; refine Kd.R_append (kF w) (w0 := w6) w.heap.size rfl (.tmp 77) (.tmp 79) 88 26 (.agg #[.int .i64 0, .slice none 0 0]) 32 rfl Try.underlying88 info26 rfl Nat.zero_lt_two (by decide) (.slice A1 os.length c1) os ⟨s, ns⟩ [.int .i64 s, .slice B1 ns.length d1] (fun _ => True) (fun _ => False) rfl rfl (k26_mk w ⟨s, ns⟩ Hd1.out HC1.out) (fun _ hk => hk.elim) (fun _ _ => trivial) H4.out.rows.1 (Below.refl _ _) H4.out.bel.size (by omega) ?_; intro v7 w7 R7 B7 g7 at7; rw [Hos.out] at R7; have H7 := Aside0.mk (H4.out.pushO R7 g7 at7); obtain ⟨A7, c7, rfl, _, _⟩ := Kd.R_reads R7; obtain ⟨m0, m1, m2, m3⟩ := H7.out.held2; obtain ⟨m4, m5, _, _⟩ := H7.out.held; clear R7 B7 g7 at7 t0 t1 u0 u1 q0 q1) | (at_builtin; refine Kd.R_append (kF w) (w0 := w7) w.heap.size rfl (.tmp 85) (.tmp 87) 88 26 (.agg #[.int .i64 0, .slice none 0 0]) 32 rfl Try.underlying88 info26 rfl Nat.zero_lt_two (by decide) (.slice A2 cs.length c2) cs ⟨0, ns⟩ [.int .i64 0, .slice B1 ns.length d1] (fun _ => True) (fun _ => False) rfl rfl (k26_mk w ⟨0, ns⟩ Hd1.out HC1.out) (fun _ hk => hk.elim) (fun _ _ => trivial) H7.out.rows.2 (Below.refl _ _) H7.out.bel.size (by omega) ?_; intro v8 w8 R8 B8 g8 at8; rw [Hcs.out] at R8; have H8 := Aside0.mk (H7.out.pushC R8 g8 at8); obtain ⟨A8, c8, rfl, _, _⟩ := Kd.R_reads R8; obtain ⟨n0, n1, n2, n3⟩ := H8.out.held2; obtain ⟨n4, n5, _, _⟩ := H8.out.held; clear R8 B8 g8 at8))
                have hP := (H8.out.few (bs' := [(b9, .cells #[.int .i64 s, .slice B1 ns.length d1] 26 (0, 0))]) (by simp)).drew
                obtain ⟨x0, x1, x2, x3⟩ := hP.held
                go_region_held3 (fun W => W.cell? ⟨q, 0, none⟩ = some (.pointer (some ⟨p1, 0, none⟩)) ∧ W.cell? ⟨q, 1, none⟩ = some (.pointer (some ⟨p2, 0, none⟩)) ∧ W.cell? ⟨b9, 0, none⟩ = some (.int .i64 s) ∧ W.cell? ⟨b9, 1, none⟩ = some (.slice B1 ns.length d1)) (first | exact hZ.held | exact hY.held | exact hX.held | exact hP.held)
                 (first | (go_at_call 56; refine (obj_cn w _ q p1 p2 cl ol _ _ os' cs' _ s _ ns hP (hU.below hP.bel) Wf0.out Wf1.out hbo).mono ?_; rintro e wX ⟨rfl, hX⟩; rw [Z3.out] at hX; rw [Z2.out]) | (go_at_call 57; refine (ctx_cn w _ q p1 p2 cl ol' _ _ os' cs' _ _ ns hX (hU.below hX.bel) Wf1.out hbc).mono ?_; rintro e wY ⟨rfl, hY⟩; rw [Y3.out] at hY; rw [Y2.out]) | (go_at_call 59; obtain ⟨GG, hGG⟩ := hY.tabs.2; refine (objects_any p2 GG [] ol' _ hGG).mono ?_; rintro e wZ ⟨rfl, rZ⟩; have hZ := hY.below rZ; rw [Hol.out]) | (fail))
                all_goals (clear x0 x1 x2 x3 hP hX hY; go_wp2_with fail; go_roundw)
                case rel => exact ⟨i + 1, os', cs', cl', ol', A7, A8, c7, c8, by go_num, rfl, rfl, by omega, ⟨by rw [← Hos.out, ← Hol'.out, ← Hcs.out, ← Hcl'.out]; exact (hL.out.pushO s ns h3' mo).pushC ns h3' mc (by omega) (Nat.le_refl _)⟩, hZ.few (by simp)⟩
                case measure => simp [intOf]; omega
      · obtain rfl : i = l.length := by omega
        have HL := Aside0.mk hL.out
        have hoslen : ol.length = os.length := by rw [hL.out.eo, List.length_map]
        have hcslen : cl.length = cs.length := by rw [hL.out.ec, List.length_map]
        have hbo2 : os.length ≤ 40 := by have := hL.out.bo; omega
        have hbc2 : cs.length ≤ 40 := by have := hL.out.bc; omega
        have tO := Aside0.mk (tup_o HL.out)
        have tC := Aside0.mk (tup_c HL.out)
        clear hL hoslen hcslen
        go_wp2_with fail
        go_loopw [13] (fun I wx => ∃ j : Nat, I = .int .i64 (j : Int) ∧ j ≤ os.length ∧ CN w wx q p1 p2 cl ol (.slice A1 os.length c1) (.slice A2 cs.length c2) os cs []) (fun I _ => os.length - (intOf I).toNat)
        case atStart => exact ⟨0, rfl, Nat.zero_le _, hQ⟩
        case round =>
          clear hQ
          obtain ⟨j, rfl, hj, hQ⟩ := hrel
          obtain ⟨x0, x1⟩ := hQ.at_
          by_cases hlt : j < os.length
          · obtain ⟨_, _, hCo⟩ := row_rd hQ.rows.1 hQ.bel
            obtain ⟨ad, B1, d1, hA, k0, k1, hd1, hC1⟩ := at_T26 hCo (j : Int) (by omega) (by omega)
            have hV := RdI.toV ⟨hC1⟩ hd1
            have ht := tO.out j hlt
            rw [Int.toNat_natCast] at k0 k1
            generalize (rd_T26 os (j : Int)).f0 = s at *
            generalize (rd_T26 os (j : Int)).f1 = ns at *
            subst hA
            have i0 : (0 : Int) ≤ (j : Int) := by omega
            have i1 : (j : Int) < (os.length : Int) := by omega
            have Hd1 := Aside0.mk hd1
            have Ht := Aside0.mk ht
            obtain ⟨G, hG⟩ := hQ.tabs.2
            clear hCo hC1 hd1 ht
            go_wp2_with fail
            refine (object_some p2 G [] ol _ hG (j : Int) s ns Ht.out).mono ?_
            rintro e w5 ⟨u5, rfl, r5, b5⟩
            obtain ⟨A5, c5, rfl, hc5, hr5⟩ := r5
            have h5 := hQ.below b5
            have m0 := pw_cell_below (w := wr) b5 k0
            have m1 := pw_cell_below (w := wr) b5 k1
            have hV5 := hV.below b5
            have hU5 := hr5.toV hc5
            clear k0 k1 x0 x1 hQ hV hr5 hG
            have Hc5 := Aside0.mk hc5
            clear hc5
            go_wp2_with fail
            have h6 := h5.box (below_alloc (Below.refl _ _) (.cells #[.int .i64 s, .slice A5 ns.length c5] 26)) (heap_alloc_new _ _) (Nat.le_refl _)
            have b6 := below_alloc (Below.refl w5.heap.size w5) (.cells #[.int .i64 s, .slice A5 ns.length c5] 26)
            have m0 := pw_cell_below (w := w5) b6 m0
            have m1 := pw_cell_below (w := w5) b6 m1
            have hV6 := hV5.below b6
            have hU6 := hU5.below b6
            clear b6 h5 hV5 hU5 b5
            generalize w5.alloc (.cells #[.int .i64 s, .slice A5 ns.length c5] 26) = W6 at *
            generalize w5.heap.size = b9 at *
            obtain ⟨_, _, n0, n1⟩ := h6.held
            have hBr := Below.refl W6.heap.size W6
            go_region_held3 (fun W => W.cell? ⟨b9, 0, none⟩ = some (.int .i64 s) ∧ W.cell? ⟨b9, 1, none⟩ = some (.slice A5 ns.length c5) ∧ W.cell? (ad.add (j * 2)) = some (.int .i64 s) ∧ W.cell? ⟨(ad.add (j * 2)).block, (ad.add (j * 2)).off + 1, none⟩ = some (.slice B1 ns.length d1) ∧ Below W6.heap.size W6 W) (refine ⟨bel_cell (wb := W6) ?_ n0, bel_cell (wb := W6) ?_ n1, pw_cell_below (w := W6) ?_ m0, pw_cell_below (w := W6) ?_ m1, ?_⟩ <;> simp [*])
             (first | (go_at_call 61; (with_reducible refine (sameO_any s _ ns s _ ns _ (hU6.below (by simp [*])) (hV6.below (by simp [*]))).mono ?_); rintro e w7 ⟨rfl, b7⟩; rw [decide_eq_true (show s = s ∧ ns = ns from ⟨rfl, rfl⟩)]; have hB7 := bel_trans (wb := W6) (by simp [*]) b7) | (fail))
            all_goals (have h7 := (h6.few (bs' := []) (by simp)).below hB7; clear n0 n1 m0 m1 hBr; go_wp2_with fail; go_roundw)
            case rel => exact ⟨j + 1, by go_num, by omega, h7⟩
            case measure => simp [intOf]; omega
          · obtain rfl : j = os.length := by omega
            clear x0 x1
            go_wp2_with fail
            go_loopw [16] (fun I wx => ∃ j : Nat, I = .int .i64 (j : Int) ∧ j ≤ cs.length ∧ CN w wx q p1 p2 cl ol (.slice A1 os.length c1) (.slice A2 cs.length c2) os cs []) (fun I _ => cs.length - (intOf I).toNat)
            case atStart => exact ⟨0, rfl, Nat.zero_le _, hQ⟩
            case round =>
              clear hQ
              obtain ⟨j, rfl, hj2, hQ⟩ := hrel
              obtain ⟨x0, x1⟩ := hQ.at_
              by_cases hlt2 : j < cs.length
              · obtain ⟨_, _, hCo⟩ := row_rd hQ.rows.2 hQ.bel
                obtain ⟨ad, B1, d1, hA, k0, k1, hd1, hC1⟩ := at_T26 hCo (j : Int) (by omega) (by omega)
                have hV := RdI.toV ⟨hC1⟩ hd1
                have ht := tC.out j hlt2
                rw [Int.toNat_natCast] at k0 k1
                generalize (rd_T26 cs (j : Int)).f1 = ns at *
                subst hA
                have i0 : (0 : Int) ≤ (j : Int) := by omega
                have i1 : (j : Int) < (cs.length : Int) := by omega
                have Hd1 := Aside0.mk hd1
                have Ht := Aside0.mk ht
                obtain ⟨G, hG⟩ := hQ.tabs.1
                clear hCo hC1 hd1 ht k0 x1
                have hBr := Below.refl wr.heap.size wr
                go_wp2_with fail
                go_region_held3 (fun W => W.cell? ⟨q, 0, none⟩ = some (.pointer (some ⟨p1, 0, none⟩)) ∧ W.cell? ⟨(ad.add (j * 2)).block, (ad.add (j * 2)).off + 1, none⟩ = some (.slice B1 ns.length d1) ∧ Below wr.heap.size wr W) (refine ⟨bel_cell (wb := wr) ?_ x0, pw_cell_below (w := wr) ?_ k1, ?_⟩ <;> simp [*])
                 (first | (go_at_call 62; (with_reducible refine (context_any p1 G [] cl _ (hG.below (by simp [*])) (j : Int)).mono ?_); rintro e w5 ⟨v5, rfl, r5, b5⟩; rw [Ht.out] at r5; have hB5 := bel_trans (wb := wr) (by simp [*]) b5) | (go_at_call 24; (with_reducible refine (same_any _ _ ns ns _ r5.toV (hV.below (by simp [*]))).mono ?_); rintro e w7 ⟨rfl, b7⟩; rw [beq_self_eq_true]; have hB7 := bel_trans (wb := wr) (by simp [*]) b7) | (fail))
                all_goals (have h7 := hQ.below hB7; clear x0 k1 hBr; go_wp2_with fail; go_roundw)
                case rel => exact ⟨j + 1, by go_num, by omega, h7⟩
                case measure => simp [intOf]; omega
              · obtain rfl : j = cs.length := by omega
                obtain ⟨G1, hG1⟩ := hQ.tabs.1
                obtain ⟨G2, hG2⟩ := hQ.tabs.2
                have tN := Aside0.mk (tup_end HL.out)
                by_cases hid : 0 ≤ id ∧ id < os.length
                · obtain ⟨d0, d1⟩ := hid
                  obtain ⟨s, ns, hsn⟩ := tup_id HL.out id d0 d1
                  have Hsn := Aside0.mk hsn
                  clear hsn
                  go_wp2_with fail
                  refine (object_some p2 G2 [] ol _ hG2 id s ns Hsn.out).mono ?_
                  rintro e w5 ⟨u5, rfl, r5, b5⟩
                  obtain ⟨A5, c5, rfl, _, _⟩ := r5
                  have h5 := hQ.below b5
                  have hG5 := hG1.below b5
                  obtain ⟨y0, y1⟩ := h5.at_
                  have y0a := bel_cell (below_alloc (Below.refl w5.heap.size w5) (.cells #[.int .i64 s, .slice A5 ns.length c5] 26)) y0
                  clear x0 x1 hQ hG1 hG2
                  go_wp2_with fail
                  refine (context_any p1 G1 [] cl _ (hG5.below (below_alloc (Below.refl _ _) _)) (cs.length : Int)).mono ?_
                  rintro e w6 ⟨v6, rfl, r6, b6⟩
                  rw [tN.out] at r6
                  obtain ⟨A6, c6, rfl, _, _⟩ := r6.rd
                  rw [List.length_nil]
                  have hBe := bel_trans h5.bel (below_then (below_alloc (Below.refl w5.heap.size w5) _) (by simp) b6)
                  clear r6 b6
                  go_wp2
                  go_ret
                  exact ⟨rfl, hBe⟩
                · have hsn : tupleOf ol id = [] := by unfold tupleOf; rw [HL.out.eo, List.length_map, if_neg hid]
                  have Hsn := Aside0.mk hsn
                  clear hsn
                  by_cases d0 : 0 ≤ id
                  all_goals try (have d1 : ¬ id < (os.length : Int) := fun h => hid ⟨d0, h⟩; have d2 : decide (id < (os.length : Int)) = false := decide_eq_false d1)
                  all_goals
                    go_wp2_with fail
                    refine (object_none p2 G2 [] ol _ hG2 id Hsn.out).mono ?_
                    rintro e w5 ⟨rfl, b5⟩
                    have h5 := hQ.below b5
                    have hG5 := hG1.below b5
                    obtain ⟨y0, y1⟩ := h5.at_
                    clear x0 x1 hQ hG1 hG2
                    go_wp2_with fail
                    refine (sameO_any 0 _ [] 0 _ [] _ (RdV.nil _) (RdV.nil _)).mono ?_
                    rintro e w6 ⟨rfl, b6⟩
                    rw [decide_eq_true (show (0 : Int) = 0 ∧ ([] : List Int) = [] from ⟨rfl, rfl⟩)]
                    have bb := below_then (below_alloc (Below.refl w5.heap.size w5) (.cells #[.int .i64 0, .slice none 0 0] 26)) (by simp) b6
                    have z0 := bel_cell bb y0
                    have hG6 := hG5.below bb
                    have h6 := h5.below bb
                    clear y0 y1 hG5 h5 bb b6
                    go_wp2_with fail
                    refine (context_any p1 G1 [] cl _ hG6 (cs.length : Int)).mono ?_
                    rintro e w7 ⟨v6, rfl, r6, b7⟩
                    rw [tN.out] at r6
                    obtain ⟨A6, c6, rfl, _, _⟩ := r6.rd
                    rw [List.length_nil]
                    have hBe := (h6.below b7).bel
                    clear r6 b7
                    go_wp2
                    go_ret
                    exact ⟨rfl, hBe⟩
end Go.Proofs.Ytmaoadlighjkpaa.Kx
