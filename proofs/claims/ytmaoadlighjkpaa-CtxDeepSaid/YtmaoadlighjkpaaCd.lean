/- CtxEnds, walked. -/
import Derived.Test.YtmaoadlighjkpaaCc
namespace Go.Proofs.Ytmaoadlighjkpaa.Ca
open Go.RowKit Go.Proofs.YtmaoadlighjkpaaW.PrintWords Go.Proofs.YtmaoadlighjkpaaW.PrintLast Go.Proofs.YtmaoadlighjkpaaW.PrintMore
open Go.Proofs.Ytmaoadlighjkpaa.PCtxNumbers Go.Proofs.Ytmaoadlighjkpaa.Base
attribute [local go_sem] max2_int min2_int max_two min_two

theorem lastL_len (n : Int) (l : List Int) (h0 : 0 ≤ n) : ((lastL n l).length : Int) = min n l.length := by
  unfold lastL; rw [List.length_drop]; omega
theorem lastL_end (n m : Int) (l : List Int) (h0 : 0 ≤ n) (h : n ≤ m) : (lastL m l).drop (((lastL m l).length : Int) - (lastL n l).length).toNat = lastL n l := by
  have e1 := lastL_len n l h0
  have e2 := lastL_len m l (by omega)
  unfold lastL at *
  rw [List.drop_drop]
  congr 1
  omega
theorem clipI_id (n : Int) (h0 : 0 ≤ n) (h3 : n ≤ 3) : clipI n = n := by unfold clipI mn mx; repeat (first | split | omega)
theorem mx_le (n : Int) (h0 : 0 ≤ n) : 0 ≤ mx (n - 1) 0 ∧ (n ≤ 3 → mx (n - 1) 0 ≤ mx (3 - 1) 0) ∧ mx (n - 1) 0 ≤ n + 1 := by unfold mx; (repeat' constructor) <;> (repeat' split) <;> omega
/-- what the law asks of the four lists -/
theorem ends_facts (n site : Int) (l : List Int) (h0 : 0 ≤ n) (h3 : n ≤ 3) : ∃ a b c d, ofL n site l = a ∧ ofL 3 site l = b ∧ madeL n l = c ∧ madeL 3 l = d ∧
    (a.length : Int) ≤ b.length ∧ b.drop ((b.length : Int) - a.length).toNat = a ∧ (c.length : Int) ≤ d.length ∧ d.drop ((d.length : Int) - c.length).toNat = c ∧ (a.length : Int) ≤ n := by
  refine ⟨_, _, _, _, rfl, rfl, rfl, rfl, ?_⟩
  unfold ofL madeL
  rw [clipI_id n h0 h3, clipI_id 3 (by omega) (by omega)]
  have hm := mx_le n h0
  have e1 := lastL_len n (l ++ [site]) h0
  have e2 := lastL_len 3 (l ++ [site]) (by omega)
  have e3 := lastL_len _ l hm.1
  have e4 := lastL_len _ l (mx_le 3 (by omega)).1
  have := hm.2.1 h3
  refine ⟨by omega, lastL_end _ _ _ h0 h3, by omega, lastL_end _ _ _ hm.1 this, by omega⟩

set_option maxHeartbeats 1000000 in
set_option maxRecDepth 100000 in
theorem ctxEnds_walk (site k : Int) (u : Value) (l : List Int) (w : World) (hr : RdV w u l) (hk0 : 0 ≤ k) (hk1 : k ≤ 255) :
    Calls Try.prog 4 #[.agg #[.int .i64 site, u], .int .u8 k] w fun e w' => e = .returned (.bool true) ∧ Below w.heap.size w w' := by
  obtain ⟨b, hbs⟩ : ∃ b, w.heap.size = b := ⟨_, rfl⟩
  have hwb : ∀ wb, w.alloc (.cells #[.int .i64 site, u] 26) = wb → wb.cell? ⟨b, 0, none⟩ = some (.int .i64 site) ∧ wb.cell? ⟨b, 1, none⟩ = some u ∧ RdV wb u l ∧ Below w.heap.size w wb := by
    rintro wb rfl
    subst hbs
    exact ⟨by simp, by simp, hr.alloc _, below_alloc (Below.refl _ _) _⟩
  obtain ⟨A, c, rfl, hc, hrr⟩ := hr
  clear hrr
  by_cases h10 : (10 : Int) < l.length
  · go_enter Try.func4, Try.ntmps4
    go_wp2_with fail
    clear hbs
    generalize hq : w.alloc (.cells #[.int .i64 site, .slice A l.length c] 26) = wb
    obtain ⟨c0, c1, hr, hB⟩ := hwb wb hq
    clear hwb hq
    refine (awake_any _).mono ?_
    rintro e w1 ⟨rfl, h1⟩
    have c1' := bel_cell h1 c1
    go_wp2_with fail
    refine (awake_any _).mono ?_
    rintro e w2 ⟨rfl, h2⟩
    go_wp2
    go_ret
    exact ⟨rfl, below_then hB hB.size (bel_trans h1 h2)⟩
  · have hn0 : 0 ≤ k % 4 := by omega
    have hn1 : k % 4 ≤ 3 := by omega
    have Hb : l.length * 8 ≤ 140737488351232 := by omega
    have Hb' := Aside0.mk Hb
    clear Hb
    go_enter Try.func4, Try.ntmps4
    go_wp2_with fail
    clear hbs
    generalize hq : w.alloc (.cells #[.int .i64 site, .slice A l.length c] 26) = wb
    obtain ⟨c0, c1, hr, hB⟩ := hwb wb hq
    clear hwb hq
    refine (awake_any _).mono ?_
    rintro e w1 ⟨rfl, h1⟩
    have c0' := bel_cell h1 c0
    have c1' := bel_cell h1 c1
    have hr' := hr.below h1
    have hB1 := below_then hB hB.size h1
    clear c0 c1 hr hB h1
    go_wp2_with fail
    generalize hn : k % 4 = n at *
    clear hn
    have HBr := Below.refl w1.heap.size w1
    go_region_held3 (fun w' => w'.cell? ⟨b, 0, none⟩ = some (.int .i64 site) ∧ w'.cell? ⟨b, 1, none⟩ = some (.slice A l.length c) ∧ Below w1.heap.size w1 w') (first | (exact ⟨bel_cell HB1 c0', bel_cell HB1 c1', HB1⟩) | go_keep)
      (first | (go_at_call 23; (with_reducible refine (of_any n site _ l _ (hr'.below (by simp [*])) Hb'.out).mono ?_); rintro e w2 ⟨v2, rfl, H1, H2⟩; have HB1 := bel_trans (wb := w1) (by simp [*]) H2) | (go_at_call 23; (with_reducible refine (of_any 3 site _ l _ (hr'.below (by simp [*])) Hb'.out).mono ?_); rintro e w3 ⟨v3, rfl, H3, H4⟩; have HB2 := bel_trans HB1 H4; clear HB1; have HB1 := HB2; clear HB2; have H1' := H1.below H4) | (fail))
    obtain ⟨la, lb, lc, ld, ea, eb, ec, ed, f1, f2, f3, f4, f5⟩ := ends_facts n site l hn0 hn1
    rw [ea] at H1'
    rw [eb] at H3
    have Ec := Aside0.mk ec
    have Ed := Aside0.mk ed
    clear ea eb ec ed H1 H2 H4
    have c0 := bel_cell HB1 c0'
    have c1 := bel_cell HB1 c1'
    have hr := hr'.below HB1
    have hB := below_then hB1 hB1.size HB1
    have G2 := H1'.toV
    have G3 := H3.toV
    clear c0' c1' hr' hB1 HB1 HBr H1' H3
    go_wp2_with fail
    have HBr := Below.refl w3.heap.size w3
    go_region_held3 (fun w' => w'.cell? ⟨b, 0, none⟩ = some (.int .i64 site) ∧ w'.cell? ⟨b, 1, none⟩ = some (.slice A l.length c) ∧ Below w3.heap.size w3 w') (first | (exact ⟨bel_cell HB1 c0, bel_cell HB1 c1, HB1⟩) | go_keep)
      (first | (go_at_call 22; (with_reducible refine (made_any n _ l _ (hr.below (by simp [*])) (by have := Hb'.out; omega)).mono ?_); rintro e w4 ⟨v4, rfl, H1, H2⟩; have HB1 := bel_trans (wb := w3) (by simp [*]) H2) | (go_at_call 22; (with_reducible refine (made_any 3 _ l _ (hr.below (by simp [*])) (by have := Hb'.out; omega)).mono ?_); rintro e w5 ⟨v5, rfl, H3, H4⟩; have HB2 := bel_trans HB1 H4; clear HB1; have HB1 := HB2; clear HB2; have H1' := H1.below H4) | (fail))
    rw [Ec.out] at H1'
    rw [Ed.out] at H3
    have hB' := below_then hB hB.size HB1
    obtain ⟨Aa, ca, rfl, hca, ga⟩ := G2.below HB1
    obtain ⟨Ab, cb, rfl, hcb, gb⟩ := G3.below HB1
    obtain ⟨Ac, cc, rfl, hcc, gc⟩ := H1'.rd
    obtain ⟨Ad, cd, rfl, hcd, gd⟩ := H3.rd
    clear H1 H1' H2 H3 H4 HB1 HBr c0 c1 hr hB G2 G3 Ec Ed
    obtain ⟨Ab', cb', hcutb, hrb⟩ := cut_from Ab cb lb ((lb.length : Int) - la.length) (by omega) (by omega) hcb
    obtain ⟨Ad', cd', hcutd, hrd⟩ := cut_from Ad cd ld ((ld.length : Int) - lc.length) (by omega) (by omega) hcd
    rw [f2] at hcutb hrb
    rw [f4] at hcutd hrd
    clear f2 f4
    have ma := ga.max
    have mb := gb.max
    have mc := gc.max
    have md := gd.max
    have g1 : decide ((la.length : Int) ≤ lb.length) = true := decide_eq_true f1
    have g3 : decide ((lc.length : Int) ≤ ld.length) = true := decide_eq_true f3
    have g5 : decide ((la.length : Int) ≤ n) = true := decide_eq_true f5
    go_wp2_with fail
    refine (same_any _ _ la la _ (ga.toV hca) (hrb _ gb)).mono ?_
    rintro e w6 ⟨rfl, h6⟩
    rw [beq_self_eq_true]
    go_wp2_with fail
    refine (same_any _ _ lc lc _ ((gc.below h6).toV hcc) (hrd _ (gd.below h6))).mono ?_
    rintro e w7 ⟨rfl, h7⟩
    rw [beq_self_eq_true]
    go_wp2
    go_ret
    exact ⟨rfl, below_then hB' hB'.size (bel_trans h6 h7)⟩
end Go.Proofs.Ytmaoadlighjkpaa.Ca
