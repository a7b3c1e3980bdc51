/- union.Union: pair. -/
import Derived.Test.YtmaoadlighjkpaaUb
import Derived.BigQuiet
namespace Go.Proofs.Ytmaoadlighjkpaa.Un
open Go.RowKit Go.Proofs.YtmaoadlighjkpaaW.PrintWords Go.Proofs.YtmaoadlighjkpaaW.PrintLast Go.Proofs.YtmaoadlighjkpaaW.PrintMore
open Go.Proofs.Ytmaoadlighjkpaa.Base Go.Proofs.Ytmaoadlighjkpaa.Map Go.Proofs.Ytmaoadlighjkpaa.Qu
set_option linter.unusedVariables false
attribute [local go_sem] max2_int min2_int max_two min_two

/-- The union in block p, told by each number's head. -/
structure Uni (w : World) (F : Nat → Prop) (p : Nat) (vU vS vH : Value) (hs : List Int) : Prop where
  mk :: (out : ∃ U S H R d, UO w F p vU vS vH U S H (cntOf hs : Int) ∧ Forest U R d ∧ Heads R H hs ∧ U.length = hs.length)
theorem Uni.chg {w w1 : World} {F G : Nat → Prop} {p : Nat} {vU vS vH : Value} {hs : List Int} (h : Uni w F p vU vS vH hs) (hC : Chg G w w1) (hd : ∀ k, F k → ¬ G k) : Uni w1 F p vU vS vH hs := by
  obtain ⟨U, S, H, R, d, h1, h2⟩ := h
  exact ⟨U, S, H, R, d, h1.chg hC hd, h2⟩
theorem Uni.below {w w1 : World} {F : Nat → Prop} {p : Nat} {vU vS vH : Value} {hs : List Int} (h : Uni w F p vU vS vH hs) (hb : Below w.heap.size w w1) : Uni w1 F p vU vS vH hs := h.chg (Chg.of_below hb (fun _ => False)) (fun _ _ hk => hk)
theorem Uni.can {w : World} {F : Nat → Prop} {p : Nat} {vU vS vH : Value} {hs : List Int} (h : Uni w F p vU vS vH hs) : Canon hs := by
  obtain ⟨U, S, H, R, d, _, _, h3, _⟩ := h
  exact h3.can

theorem Forest.roots {U : List Int} {R d : Nat → Nat} (h : Forest U R d) (i : Nat) (hi : i < U.length) : R i < U.length ∧ R (R i) = R i := by
  obtain ⟨j, _, _, _, r4, r5, _, _⟩ := h.at_ i hi
  obtain ⟨k, s1, _, _, _, _, s6, _⟩ := h.at_ (R i) r4
  exact ⟨r4, s6 (by omega)⟩

/-- behind the stores -/
theorem uni_linked {W : World} {F : Nat → Prop} {p : Nat} {vU vS vH : Value} {U S' H hs : List Int} {R d : Nat → Nat} {a b x y : Nat} (hf : Forest U R d) (hh : Heads R H hs) (hl : U.length = hs.length)
    (ha : a < hs.length) (hb : b < hs.length) (hxy : (x = R a ∧ y = R b) ∨ (x = R b ∧ y = R a)) (hne : x ≠ y) (lH : H.length = U.length)
    (h : UO W F p vU vS vH (U.set y (x : Int)) S' (H.set x (min (rd H x) (rd H y))) ((cntOf hs : Int) - 1)) :
    Uni W F p vU vS vH (joinL hs a b) := by
  have hr : ∀ i, i < hs.length → R i < hs.length ∧ R (R i) = R i := fun i hi => by
    have := hf.roots i (by omega)
    rw [hl] at this
    exact this
  have hne' : R a ≠ R b := by rcases hxy with ⟨e1, e2⟩ | ⟨e1, e2⟩ <;> omega
  have hab : rd hs a ≠ rd hs b := fun e => hne' (hh.inj a b ha hb e)
  have hx : x < hs.length ∧ R x = x := by
    rcases hxy with ⟨rfl, _⟩ | ⟨rfl, _⟩
    · exact hr a ha
    · exact hr b hb
  have hy : y < hs.length ∧ R y = y := by
    rcases hxy with ⟨_, rfl⟩ | ⟨_, rfl⟩
    · exact hr b hb
    · exact hr a ha
  have hcj := cnt_join hh.can ha hb hab
  have hc : (cntOf hs : Int) - 1 = (cntOf (joinL hs a b) : Int) := by omega
  rw [hc] at h
  exact ⟨_, _, _, _, _, h, hf.link (by omega) (by omega) hx.2 hy.2 hne, hh.link (by omega) hr ha hb hxy hne, by rw [List.length_set, joinL_len, hl]⟩

set_option maxHeartbeats 4000000 in
set_option maxRecDepth 100000 in
theorem pair_any (p : Nat) (F : Nat → Prop) (vU vS vH : Value) (hs : List Int) (a b : Nat) (w : World) (h : Uni w F p vU vS vH hs) (ha : a < hs.length) (hb : b < hs.length) (hlen : hs.length ≤ 1000000) :
    Calls Try.prog 81 #[.pointer (some ⟨p, 0, none⟩), .int .i64 (a : Int), .int .i64 (b : Int)] w fun e w' => e = .returned (.bool (decide (rd hs a ≠ rd hs b))) ∧ Uni w' F p vU vS vH (joinL hs a b) ∧ Chg F w w' := by
  obtain ⟨U0, S, H, R, d, h0, hf0, hh, hl0⟩ := h
  have Hh := Aside0.mk hh
  have Hf0 := Aside0.mk hf0
  have H0 := Aside0.mk h0
  clear hh hf0 h0
  by_cases heq : R a = R b
  · have hab : rd hs a = rd hs b := by rw [← Hh.out.hd a ha, ← Hh.out.hd b hb, heq]
    rw [joinL_same hs a b hab, decide_eq_false (fun h : rd hs a ≠ rd hs b => h hab)]
    obtain ⟨x, hx⟩ : ∃ x, R a = x := ⟨_, rfl⟩
    have hx2 : R b = x := by rw [← heq, hx]
    have Hx := Aside0.mk hx
    have Hx2 := Aside0.mk hx2
    clear heq hab hx hx2
    go_enter Try.func81, Try.ntmps81
    go_wp2_with fail
    refine (root_any p F vU vS vH U0 S H _ R d a _ H0.out Hf0.out (by omega)).mono ?_
    rintro e w1 ⟨rfl, U1, h1, hf1, hl1, hC1⟩
    rw [Hx.out]
    have H1 := Aside0.mk h1
    have Hf1 := Aside0.mk hf1
    clear h1 hf1
    go_wp2_with fail
    refine (root_any p F vU vS vH U1 S H _ R d b _ H1.out Hf1.out (by omega)).mono ?_
    rintro e w2 ⟨rfl, U2, h2, hf2, hl2, hC2⟩
    rw [Hx2.out]
    have H2 := Aside0.mk h2
    have Hf2 := Aside0.mk hf2
    clear h2 hf2
    go_wp2
    go_ret
    exact ⟨rfl, ⟨U2, S, H, R, d, H2.out, Hf2.out, Hh.out, by omega⟩, hC1.then_ hC2 (fun k hk => .inl hk)⟩
  · have hab : rd hs a ≠ rd hs b := fun e => heq (Hh.out.inj a b ha hb e)
    rw [decide_eq_true hab]
    have hra := (Hf0.out.roots a (by omega)).1
    have hrb := (Hf0.out.roots b (by omega)).1
    obtain ⟨x0, hx⟩ : ∃ x, R a = x := ⟨_, rfl⟩
    obtain ⟨y0, hy⟩ : ∃ y, R b = y := ⟨_, rfl⟩
    rw [hx] at hra heq
    rw [hy] at hrb heq
    have Hx := Aside0.mk hx
    have Hy := Aside0.mk hy
    have hxy : (x0 : Int) ≠ (y0 : Int) := by omega
    have hcn1 := cnt_le hs
    have hcn2 := cnt_join Hh.out.can ha hb hab
    have hcn3 : (0 : Int) ≤ (cntOf hs : Int) - 1 := by omega
    have hcn4 : (cntOf hs : Int) - 1 ≤ 1000000 := by omega
    clear hcn1 hcn2
    clear hab hx hy
    go_enter Try.func81, Try.ntmps81
    go_wp2_with fail
    refine (root_any p F vU vS vH U0 S H _ R d a _ H0.out Hf0.out (by omega)).mono ?_
    rintro e w1 ⟨rfl, U1, h1, hf1, hl1, hC1⟩
    rw [Hx.out]
    have H1 := Aside0.mk h1
    have Hf1 := Aside0.mk hf1
    clear h1 hf1
    go_wp2_with fail
    refine (root_any p F vU vS vH U1 S H _ R d b _ H1.out Hf1.out (by omega)).mono ?_
    rintro e w2 ⟨rfl, U2, h2, hf2, hl2, hC2⟩
    rw [Hy.out]
    have hC := hC1.then_ hC2 (fun k hk => .inl hk)
    have hf2 := Aside0.mk hf2
    obtain ⟨gU, cU, rfl⟩ := h2.u.slice (by omega)
    obtain ⟨gS, cS, rfl⟩ := h2.s.slice (by rw [h2.lS]; omega)
    obtain ⟨gH, cH, rfl⟩ := h2.h.slice (by rw [h2.lH]; omega)
    have hFU : F gU := (h2.dU gU (by simp [Value.ownBlock])).2.2
    have hFS : F gS := (h2.dS gS (by simp [Value.ownBlock])).2
    have hFH : F gH := h2.dH gH (by simp [Value.ownBlock])
    have hFp : F p := h2.pF
    have lS := h2.lS
    have lH := h2.lH
    obtain ⟨N, hN⟩ : ∃ N, U2.length = N := ⟨_, rfl⟩
    rw [lS, lH, hN] at h2
    rw [hN] at lS lH
    have hNN : N = hs.length := by omega
    have hx1 : x0 < N := by omega
    have hy1 : y0 < N := by omega
    have c1 := blk_cell h2.blk 1
    have a1 := (h2.s.cell x0 (by omega)).1
    have a2 := (h2.s.cell y0 (by omega)).1
    have i0 : (0 : Int) ≤ (x0 : Int) := by omega
    have i1 : (x0 : Int) < (N : Int) := by omega
    have j0 : (0 : Int) ≤ (y0 : Int) := by omega
    have j1 : (y0 : Int) < (N : Int) := by omega
    have HNN := Aside0.mk hNN
    clear hNN
    have H2 := Aside0.mk h2
    clear H0 Hf0 H1 Hf1 hC1 hC2 h2
    go_wp2_with fail
    go_quiet (fail)
    have h3 := H2.out.below (pw_below_drewN (Below.refl _ _) nq)
    have hC3 := hC.andBelow (pw_below_drewN (Below.refl _ _) nq)
    generalize w2.drewN nq = w3 at *
    by_cases hS : rd S x0 < rd S y0
    · have c0 := blk_cell h3.blk 0
      have aY := (h3.u.cell x0 (by omega)).1
      have zY := (h3.u.cell x0 (by omega)).2
      go_wp2_with fail
      have h4 := h3.setU x0 (y0 : Int)
      have hC4 := hC3.then_ (Chg.setCell w3 (p := ⟨gU, x0, none⟩) hFU (.int .i64 (y0 : Int))) (fun k hk => .inl hk)
      generalize w3.setCell ⟨gU, x0, none⟩ (.int .i64 (y0 : Int)) = w4 at *
      clear c0 aY zY h3 hC3 a1 a2 c1
      have c1 := blk_cell h4.blk 1
      have a1 := (h4.s.cell y0 (by omega)).1
      have z1 := (h4.s.cell y0 (by omega)).2
      have a2 := (h4.s.cell x0 (by omega)).1
      go_region
      have h5 := (h4.setS y0 (wrap64 (rd S y0 + rd S x0))).below (below_drew (Below.refl _ _))
      have hC5 := (hC4.then_ (Chg.setCell w4 (p := ⟨gS, y0, none⟩) hFS (.int .i64 (wrap64 (rd S y0 + rd S x0)))) (fun k hk => .inl hk)).andBelow (below_drew (Below.refl _ _))
      generalize (w4.setCell ⟨gS, y0, none⟩ (.int .i64 (wrap64 (rd S y0 + rd S x0)))).drew = w5 at *
      clear c1 a1 z1 a2 h4 hC4
      have c2 := blk_cell h5.blk 2
      have a1 := (h5.h.cell y0 (by omega)).1
      have z1 := (h5.h.cell y0 (by omega)).2
      have a2 := (h5.h.cell x0 (by omega)).1
      go_wp2_with fail
      go_region
      have hm : (if rd H x0 < rd H y0 then rd H x0 else rd H y0) = min (rd H y0) (rd H x0) := by split <;> omega
      rw [hm]
      have h6 := (h5.setH y0 (min (rd H y0) (rd H x0))).below (below_drew (Below.refl _ _))
      have hC6 := (hC5.then_ (Chg.setCell w5 (p := ⟨gH, y0, none⟩) hFH (.int .i64 (min (rd H y0) (rd H x0)))) (fun k hk => .inl hk)).andBelow (below_drew (Below.refl _ _))
      generalize (w5.setCell ⟨gH, y0, none⟩ (.int .i64 (min (rd H y0) (rd H x0)))).drew = w6 at *
      clear c2 a1 z1 a2 h5 hC5 hm
      have c3 := blk_cell h6.blk 3
      have z3 := blk_frozen h6.blk 3
      have H6 := Aside0.mk h6
      clear h6
      go_wp2
      go_ret
      simp only [hN, lS, lH]
      exact ⟨rfl, uni_linked hf2.out Hh.out (hN.trans HNN.out) ha hb (.inr ⟨by rw [Hy.out], by rw [Hx.out]⟩) (by omega) (lH.trans hN.symm) (H6.out.setC _), hC6.then_ (Chg.setCell w6 (p := ⟨p, 3, none⟩) hFp _) (fun k hk => .inl hk)⟩
    · have c0 := blk_cell h3.blk 0
      have aY := (h3.u.cell y0 (by omega)).1
      have zY := (h3.u.cell y0 (by omega)).2
      go_wp2_with fail
      have h4 := h3.setU y0 (x0 : Int)
      have hC4 := hC3.then_ (Chg.setCell w3 (p := ⟨gU, y0, none⟩) hFU (.int .i64 (x0 : Int))) (fun k hk => .inl hk)
      generalize w3.setCell ⟨gU, y0, none⟩ (.int .i64 (x0 : Int)) = w4 at *
      clear c0 aY zY h3 hC3 a1 a2 c1
      have c1 := blk_cell h4.blk 1
      have a1 := (h4.s.cell x0 (by omega)).1
      have z1 := (h4.s.cell x0 (by omega)).2
      have a2 := (h4.s.cell y0 (by omega)).1
      go_region
      have h5 := (h4.setS x0 (wrap64 (rd S x0 + rd S y0))).below (below_drew (Below.refl _ _))
      have hC5 := (hC4.then_ (Chg.setCell w4 (p := ⟨gS, x0, none⟩) hFS (.int .i64 (wrap64 (rd S x0 + rd S y0)))) (fun k hk => .inl hk)).andBelow (below_drew (Below.refl _ _))
      generalize (w4.setCell ⟨gS, x0, none⟩ (.int .i64 (wrap64 (rd S x0 + rd S y0)))).drew = w5 at *
      clear c1 a1 z1 a2 h4 hC4
      have c2 := blk_cell h5.blk 2
      have a1 := (h5.h.cell x0 (by omega)).1
      have z1 := (h5.h.cell x0 (by omega)).2
      have a2 := (h5.h.cell y0 (by omega)).1
      go_wp2_with fail
      go_region
      have hm : (if rd H y0 < rd H x0 then rd H y0 else rd H x0) = min (rd H x0) (rd H y0) := by split <;> omega
      rw [hm]
      have h6 := (h5.setH x0 (min (rd H x0) (rd H y0))).below (below_drew (Below.refl _ _))
      have hC6 := (hC5.then_ (Chg.setCell w5 (p := ⟨gH, x0, none⟩) hFH (.int .i64 (min (rd H x0) (rd H y0)))) (fun k hk => .inl hk)).andBelow (below_drew (Below.refl _ _))
      generalize (w5.setCell ⟨gH, x0, none⟩ (.int .i64 (min (rd H x0) (rd H y0)))).drew = w6 at *
      clear c2 a1 z1 a2 h5 hC5 hm
      have c3 := blk_cell h6.blk 3
      have z3 := blk_frozen h6.blk 3
      have H6 := Aside0.mk h6
      clear h6
      go_wp2
      go_ret
      simp only [hN, lS, lH]
      exact ⟨rfl, uni_linked hf2.out Hh.out (hN.trans HNN.out) ha hb (.inl ⟨by rw [Hx.out], by rw [Hy.out]⟩) (by omega) (lH.trans hN.symm) (H6.out.setC _), hC6.then_ (Chg.setCell w6 (p := ⟨p, 3, none⟩) hFp _) (fun k hk => .inl hk)⟩
end Go.Proofs.Ytmaoadlighjkpaa.Un
