/- nodes: Id, with what it changes. -/
import Derived.Test.YtkbbliicijnpjaaDoorVh
namespace Go.Proofs.YtkbbliicijnpjaaDoor.Tx
open Go.RowKit Go.Proofs.YtkbbliicijnpjaaDoorW.PrintWords Go.Proofs.YtkbbliicijnpjaaDoorW.PrintLast Go.Proofs.YtkbbliicijnpjaaDoorW.PrintMore
open Go.Proofs.YtkbbliicijnpjaaDoor.Base Go.Proofs.YtkbbliicijnpjaaDoor.Map Go.Proofs.YtkbbliicijnpjaaDoor.Ca Go.Proofs.YtkbbliicijnpjaaDoor.Qu Go.Proofs.YtkbbliicijnpjaaDoor.In Go.Proofs.YtkbbliicijnpjaaDoor.Kx Go.Maps Go.Proofs.YtkbbliicijnpjaaDoor.PNodeIds
set_option linter.unusedVariables false

/-- the nodes in block x, the blocks of the numbers' table named -/
structure NKX (w0 w : World) (H : Nat → Prop) (x p q : Nat) (tl : List (List Int)) : Prop where
  mk :: (out : TabAt w H p [] tl ∧ (∀ k, H k → w0.heap.size ≤ k ∧ k < w.heap.size) ∧ w.heap[x]? = some (nodeB q p tl) ∧ w0.heap.size ≤ x ∧ ¬ H x ∧ Below w0.heap.size w0 w)
theorem NK.at_ {w0 w : World} {x p q : Nat} {tl : List (List Int)} (h : NK w0 w x p q tl) : ∃ H, NKX w0 w H x p q tl := by obtain ⟨H, h⟩ := h; exact ⟨H, ⟨h⟩⟩
section
variable {w0 w w1 : World} {H : Nat → Prop} {x p q : Nat} {tl : List (List Int)}
theorem NKX.nk (h : NKX w0 w H x p q tl) : NK w0 w x p q tl := ⟨H, h.out⟩
theorem NKX.bel (h : NKX w0 w H x p q tl) : Below w0.heap.size w0 w := h.nk.bel
theorem NKX.below (h : NKX w0 w H x p q tl) (hb : Below w.heap.size w w1) : NKX w0 w1 H x p q tl := by
  obtain ⟨h1, h2, h3, h4, h5, h6⟩ := h
  exact ⟨h1.below hb, fun k hk => ⟨(h2 k hk).1, Nat.lt_of_lt_of_le (h2 k hk).2 hb.size⟩, blk_below' h3 hb, h4, h5, below_then h6 h6.size hb⟩
theorem NKX.chg {G : Nat → Prop} (h : NKX w0 w H x p q tl) (hC : Chg G w w1) (hd : ∀ k, G k → w0.heap.size ≤ k ∧ ¬ H k ∧ k ≠ x) : NKX w0 w1 H x p q tl := by
  obtain ⟨h1, h2, h3, h4, h5, h6⟩ := h
  exact ⟨h1.chg hC (fun k hk hg => (hd k hg).2.1 hk), fun k hk => ⟨(h2 k hk).1, Nat.lt_of_lt_of_le (h2 k hk).2 hC.size⟩, hC.blk h3 (fun hg => (hd x hg).2.2 rfl), h4, h5, h6.trans (hC.below h6.size (fun k hk => (hd k hk).1))⟩
end
set_option maxHeartbeats 4000000 in
set_option maxRecDepth 100000 in
theorem id_nkx (w0 w : World) (Hf : Nat → Prop) (x p q : Nat) (tl : List (List Int)) (k a b c : Int) (h : NKX w0 w Hf x p q tl) (ha : (Lit.int .i64 a).wf = true) (hb : (Lit.int .i64 b).wf = true) (hc : (Lit.int .i64 c).wf = true) (hlen : tl.length ≤ 1000) :
    Calls Tryd.prog 33 #[.pointer (some ⟨x, 0, none⟩), .agg #[.int .i64 k, .int .i64 a, .int .i64 b, .int .i64 c]] w fun e w' => e = .returned (.int .i64 (idN tl k a b c)) ∧ ∃ H2, NKX w0 w' H2 x p q (tlN tl k a b c) ∧ Chg (fun k => Hf k ∨ k = x) w w' ∧ ∀ k, H2 k → Hf k ∨ w.heap.size ≤ k := by
  have H9 := Aside0.mk h
  replace h := h.nk
  have hwf := pl_wf (k := k) ha hb hc
  have HW := Aside0.mk hwf
  have H := Aside0.mk h
  obtain ⟨hT0, hrg0, hbk0, hx00, hnx0, hbel0⟩ := H9.out.out
  have HT0 := Aside0.mk hT0
  have HRG0 := Aside0.mk hrg0
  have HX00 := Aside0.mk hx00
  have HNX0 := Aside0.mk hnx0
  have HBEL0 := Aside0.mk hbel0
  clear hT0 hrg0 hbk0 hx00 hnx0 hbel0
  have hxb := h.blk
  have HX := Aside0.mk hxb
  have HLn := Aside0.mk hlen
  obtain ⟨r1, r2, r3, r4, r5, hpl⟩ : ∃ r1 r2 r3 r4 r5, pl k a b c = (r1, r2, r3, r4, r5) := ⟨_, _, _, _, _, rfl⟩
  have Hpl := Aside0.mk hpl
  obtain ⟨sN, hs⟩ : ∃ s, idN tl k a b c = s := ⟨_, rfl⟩
  obtain ⟨tN, ht⟩ : ∃ s, tlN tl k a b c = s := ⟨_, rfl⟩
  have Hs := Aside0.mk hs
  have Ht := Aside0.mk ht
  rw [hs, ht]
  clear hs ht
  obtain ⟨g, hg⟩ : ∃ g, w.heap.size = g := ⟨_, rfl⟩
  have hwb : ∀ wb, w.alloc (.cells #[.int .i64 k, .int .i64 a, .int .i64 b, .int .i64 c] 46) = wb → wb.heap[g]? = some (.cells #[.int .i64 k, .int .i64 a, .int .i64 b, .int .i64 c] 46 (0, 0)) ∧ Below w.heap.size w wb := by
    rintro wb rfl
    subst hg
    exact ⟨heap_alloc_new _ _, below_alloc (Below.refl _ _) _⟩
  clear ha hb hc hwf h hxb hpl hlen
  go_enter Tryd.func33, Tryd.ntmps33
  go_wp2_with fail
  have Hg := Aside0.mk hg
  clear hg
  generalize hqw : w.alloc (.cells #[.int .i64 k, .int .i64 a, .int .i64 b, .int .i64 c] 46) = wb
  obtain ⟨B0, hB⟩ := hwb wb hqw
  clear hwb hqw
  refine (plain_any _ _ _ _ _).mono ?_
  rintro e w1 ⟨rfl, h1⟩
  have B1 := blk_below' B0 h1
  have HB := Aside0.mk (below_then hB hB.size h1)
  have HBk := Aside0.mk B1
  have d0 := blk_cell B1 0
  have d1 := blk_cell B1 1
  have d2 := blk_cell B1 2
  have d3 := blk_cell B1 3
  have f0 := blk_frozen B1 0
  have f1 := blk_frozen B1 1
  have f2 := blk_frozen B1 2
  have f3 := blk_frozen B1 3
  rw [Hpl.out]
  clear B0 hB h1 B1
  cases r5 with
  | false =>
    have e1 : idN tl k a b c = -1 := by unfold idN okN; rw [Hpl.out]; rfl
    have e2 : tlN tl k a b c = tl := by unfold tlN okN; rw [Hpl.out]; rfl
    rw [Hs.out] at e1
    rw [Ht.out] at e2
    have hge : w.heap.size ≤ g := Nat.le_of_eq Hg.out
    have PB := below_setCell (below_setCell (below_setCell (below_setCell HB.out (p := ⟨g, 0, none⟩) hge (.int .i64 r1)) (p := ⟨g, 1, none⟩) hge (.int .i64 r2)) (p := ⟨g, 2, none⟩) hge (.int .i64 r3)) (p := ⟨g, 3, none⟩) hge (.int .i64 r4)
    have HE := Aside0.mk (And.intro e1 e2)
    have HPB := Aside0.mk PB
    clear hge e1 e2 PB
    go_wp2
    go_ret
    refine ⟨by rw [HE.out.1]; rfl, ?_⟩
    rw [HE.out.2]
    exact ⟨Hf, H9.out.below HPB.out, Chg.of_below HPB.out _, fun k hk => .inl hk⟩
  | true =>
    obtain ⟨hpa, hr0, hr5⟩ := pl_again Hpl.out
    have Hpa := Aside0.mk hpa
    have Hr := Aside0.mk (And.intro hr0 hr5)
    clear hpa
    go_upto_region 2 with (fail)
    have P0 := blk_put (blk_put (blk_put (blk_put HBk.out 0 (.int .i64 r1) rfl) 1 (.int .i64 r2) rfl) 2 (.int .i64 r3) rfl) 3 (.int .i64 r4) rfl
    have hge : w.heap.size ≤ g := Nat.le_of_eq Hg.out
    have PB := below_setCell (below_setCell (below_setCell (below_setCell HB.out (p := ⟨g, 0, none⟩) hge (.int .i64 r1)) (p := ⟨g, 1, none⟩) hge (.int .i64 r2)) (p := ⟨g, 2, none⟩) hge (.int .i64 r3)) (p := ⟨g, 3, none⟩) hge (.int .i64 r4)
    generalize (((w1.setCell ⟨g, 0, none⟩ (.int .i64 r1)).setCell ⟨g, 1, none⟩ (.int .i64 r2)).setCell ⟨g, 2, none⟩ (.int .i64 r3)).setCell ⟨g, 3, none⟩ (.int .i64 r4) = W at *
    clear d0 d1 d2 d3 f0 f1 f2 f3 hge HB HBk
    have HB := Aside0.mk PB
    have HN := Aside0.mk (H.out.below PB)
    have HG0 := Aside0.mk P0
    have htup : tup k a b c = [r1, r2, r3, r4] := by unfold tup; rw [Hpl.out]
    have hwr := HW.out
    rw [htup] at hwr
    have e1 : idN tl k a b c = idOf tl [r1, r2, r3, r4] := by unfold idN okN; rw [htup, Hpl.out]; rfl
    have e2 : tlN tl k a b c = idL tl [r1, r2, r3, r4] := by unfold tlN okN; rw [htup, Hpl.out]; rfl
    rw [Hs.out] at e1
    rw [Ht.out] at e2
    have e3 : findN tl r1 r2 r3 r4 = findOf tl [r1, r2, r3, r4] := by unfold findN okN tup; rw [Hpa.out]; rfl
    have E1 := Aside0.mk e1
    have E2 := Aside0.mk e2
    have E3 := Aside0.mk e3
    have HWr := Aside0.mk hwr
    have g0 := blk_cell P0 0
    have g1 := blk_cell P0 1
    have g2 := blk_cell P0 2
    have g3 := blk_cell P0 3
    clear P0 PB htup hwr e1 e2 e3 HW Hpl Hs Ht
    go_wp2_with fail
    refine (find_nk w0 W x p q tl r1 r2 r3 r4 HN.out (HWr.out r2 (by simp)) (HWr.out r3 (by simp)) (HWr.out r4 (by simp))).mono ?_
    rintro e w5 ⟨rfl, h5⟩
    rw [E3.out, findOf_iff tl [r1, r2, r3, r4] (by simp)]
    have HN5 := Aside0.mk (HN.out.below h5)
    have HB5 := Aside0.mk (below_then HB.out HB.out.size h5)
    have HG5 := Aside0.mk (blk_below' HG0.out h5)
    have g0 := blk_cell HG5.out 0
    have g1 := blk_cell HG5.out 1
    have g2 := blk_cell HG5.out 2
    have g3 := blk_cell HG5.out 3
    clear h5
    by_cases hm : [r1, r2, r3, r4] ∈ tl
    · have hd : decide ([r1, r2, r3, r4] ∈ tl) = true := decide_eq_true hm
      rw [hd]
      have htN : tN = tl := by
        have := E2.out
        unfold idL at this
        rw [if_pos (.inr hm)] at this
        exact this
      have hT2 := HT0.out.below HB5.out
      have hrg : ∀ k, Hf k → w0.heap.size ≤ k ∧ k < w5.heap.size := fun k hk => ⟨(HRG0.out k hk).1, Nat.lt_of_lt_of_le (HRG0.out k hk).2 HB5.out.size⟩
      have hx0 := HX00.out
      have hnx := HNX0.out
      have hbel2 := below_then HBEL0.out HBEL0.out.size HB5.out
      have hbk2 := HN5.out.blk
      rw [← htN] at hbk2
      have hg2 := HG5.out
      have hngf : Hf g → False := fun e => by
        have h9 := (HRG0.out g e).2
        have h8 := Hg.out
        omega
      have hrs : Chg (fun k => Hf k ∨ k = x) w w5 := Chg.of_below HB5.out _
      clear htN hd g0 g1 g2 g3
      generalize w5 = W2 at *
      have hxg : x < g := by have := blk_lt HX.out; have := Hg.out; omega
      have y1 := blk_cell hbk2 1
      have g0 := blk_cell hg2 0
      have g1 := blk_cell hg2 1
      have g2 := blk_cell hg2 2
      have g3 := blk_cell hg2 3
      have hb3 : Below W2.heap.size W2 (W2.alloc (.cells #[.int .i64 r1, .int .i64 r2, .int .i64 r3, .int .i64 r4] 3)).drew := below_drew (below_alloc (Below.refl _ _) _)
      have HL : Aside0 (RdV (W2.alloc (.cells #[.int .i64 r1, .int .i64 r2, .int .i64 r3, .int .i64 r4] 3)).drew (.slice (some ⟨W2.heap.size, 0, none⟩) 4 4) [r1, r2, r3, r4]) := ⟨(OwI.lit W2 [r1, r2, r3, r4] (by simp)).toV.drew⟩
      have HT3 := Aside0.mk (hT2.below hb3)
      have HB3 := Aside0.mk hb3
      have Hbk2 := Aside0.mk hbk2
      have Hg2 := Aside0.mk hg2
      have Hrg := Aside0.mk hrg
      have Hx0 := Aside0.mk hx0
      have Hnx := Aside0.mk hnx
      have Hbel2 := Aside0.mk hbel2
      have Hng : Aside0 (¬ Hf g) := ⟨fun e => hngf e⟩
      have Hrs := Aside0.mk hrs
      clear hT2 hb3 hbk2 hg2 hrg hx0 hnx hbel2 hngf hxg hrs
      have hbr := Below.refl W2.heap.size W2
      go_wp2_with fail
      go_region_held3 (fun w' => w'.cell? ⟨x, 1, none⟩ = some (.pointer (some ⟨p, 0, none⟩)) ∧ w'.cell? ⟨g, 0, none⟩ = some (.int .i64 r1) ∧ w'.cell? ⟨g, 1, none⟩ = some (.int .i64 r2) ∧ w'.cell? ⟨g, 2, none⟩ = some (.int .i64 r3) ∧ w'.cell? ⟨g, 3, none⟩ = some (.int .i64 r4)) (first | (exact ⟨chg_cell hC6 Hnx.out (bel_cell HB3.out y1), chg_cell hC6 Hng.out (bel_cell HB3.out g0), chg_cell hC6 Hng.out (bel_cell HB3.out g1), chg_cell hC6 Hng.out (bel_cell HB3.out g2), chg_cell hC6 Hng.out (bel_cell HB3.out g3)⟩) | (refine ⟨bel_cell (wb := W2) ?_ y1, bel_cell (wb := W2) ?_ g0, bel_cell (wb := W2) ?_ g1, bel_cell (wb := W2) ?_ g2, bel_cell (wb := W2) ?_ g3⟩ <;> simp [*]))
        (first
          | (go_at_call 54; (refine (id_any p Hf [] tl _ [r1, r2, r3, r4] _ HT3.out HL.out HWr.out (by have := HLn.out; omega)).mono ?_); rintro e w6 ⟨rfl, hT6, hC6⟩; rw [← E1.out])
          | (fail))
      all_goals go_wp2_with fail
      go_ret
      refine ⟨rfl, ext Hf _ w6, ⟨by rw [E2.out]; exact hT6, fun k hk => ?_, by rw [hC6.block x (Nat.lt_of_lt_of_le (blk_lt Hbk2.out) HB3.out.size) Hnx.out, HB3.out.block x (blk_lt Hbk2.out)]; exact Hbk2.out, Hx0.out, ?_, (below_then Hbel2.out Hbel2.out.size HB3.out).trans (hC6.below (Nat.le_trans Hbel2.out.size HB3.out.size) (fun k hk => (Hrg.out k hk).1))⟩, (Hrs.out.andBelow HB3.out).then_ hC6 (fun k hk => .inl (.inl hk)), fun k hk => hk.elim .inl (fun hk => .inr (Nat.le_trans (Nat.le_trans Hrs.out.size HB3.out.size) hk.1))⟩
      · rcases hk with hk | hk
        · exact ⟨(Hrg.out k hk).1, Nat.lt_of_lt_of_le (Nat.lt_of_lt_of_le (Hrg.out k hk).2 HB3.out.size) hC6.size⟩
        · exact ⟨Nat.le_trans (Nat.le_trans Hbel2.out.size HB3.out.size) hk.1, hk.2⟩
      · rintro (hk | hk)
        · exact Hnx.out hk
        · exact absurd hk.1 (Nat.not_le.2 (Nat.lt_of_lt_of_le (blk_lt Hbk2.out) HB3.out.size))
    · have hd : decide ([r1, r2, r3, r4] ∈ tl) = false := decide_eq_false hm
      rw [hd]
      obtain ⟨n1, n2, n3⟩ := node_bump HN5.out.blk r1 [r2, r3, r4] hr0 hr5
      obtain ⟨n, hn⟩ : ∃ n, cntK tl r1 = n := ⟨_, rfl⟩
      have hcl := cntK_le tl r1
      rw [hn] at n1 n3 hcl
      have hwn : wrap64 (n + 1) = n + 1 := by have := HLn.out; unfold wrap64; omega
      have Hn3 := Aside0.mk n3
      have Hm := Aside0.mk hm
      clear n3 hd hn hcl hm
      replace hr0 := eq_true hr0
      replace hr5 := eq_true hr5
      go_wp2_with fail
      go_region
      all_goals go_wp2_with fail
      have hT1 := HT0.out.below HB5.out
      have hrg1 : ∀ k, Hf k → w0.heap.size ≤ k ∧ k < w5.heap.size := fun k hk => ⟨(HRG0.out k hk).1, Nat.lt_of_lt_of_le (HRG0.out k hk).2 HB5.out.size⟩
      have hx0 := HX00.out
      have hnx := HNX0.out
      have hbel1 := below_then HBEL0.out HBEL0.out.size HB5.out
      have hbk1 := HN5.out.blk
      have hC1 : Chg (fun k => k = x) w5 (w5.setCell ⟨x, 2 + r1.toNat, none⟩ (.int .i64 (n + 1))) := Chg.setCell w5 (p := ⟨x, 2 + r1.toNat, none⟩) (F := fun k => k = x) rfl _
      have hb1 : Below (w5.setCell ⟨x, 2 + r1.toNat, none⟩ (.int .i64 (n + 1))).heap.size (w5.setCell ⟨x, 2 + r1.toNat, none⟩ (.int .i64 (n + 1))) (w5.setCell ⟨x, 2 + r1.toNat, none⟩ (.int .i64 (n + 1))).drew := below_drew (Below.refl _ _)
      have hT2 := (hT1.chg hC1 (fun k hk e => hnx (e ▸ hk))).below hb1
      have hbk2 := blk_below' Hn3.out hb1
      have htN : tN = tl ++ [[r1, r2, r3, r4]] := by
        have := E2.out
        unfold idL at this
        rw [if_neg (by rintro (h | h); exact absurd h (by simp); exact Hm.out h)] at this
        exact this
      rw [← htN] at hbk2
      have hg2 := blk_below' (hC1.blk HG5.out (fun e => by have := blk_lt HX.out; have := Hg.out; omega)) hb1
      have hbel2 := below_then (below_setCell hbel1 (p := ⟨x, 2 + r1.toNat, none⟩) hx0 (.int .i64 (n + 1))) (Nat.le_trans hbel1.size hC1.size) hb1
      have hrg : ∀ k, Hf k → w0.heap.size ≤ k ∧ k < (w5.setCell ⟨x, 2 + r1.toNat, none⟩ (.int .i64 (n + 1))).drew.heap.size := fun k hk => ⟨(hrg1 k hk).1, Nat.lt_of_lt_of_le (hrg1 k hk).2 (Nat.le_trans hC1.size hb1.size)⟩
      have hngf : Hf g → False := fun e => by
        have h9 := (HRG0.out g e).2
        have h8 := Hg.out
        omega
      have hrs : Chg (fun k => Hf k ∨ k = x) w (w5.setCell ⟨x, 2 + r1.toNat, none⟩ (.int .i64 (n + 1))).drew := ((Chg.of_below HB5.out _).then_ hC1 (fun k hk => .inl (.inr hk))).andBelow hb1
      clear hT1 hrg1 hbk1 hbel1 hC1 hb1 htN n1 n2 g0 g1 g2 g3
      generalize (w5.setCell ⟨x, 2 + r1.toNat, none⟩ (.int .i64 (n + 1))).drew = W2 at *
      have hxg : x < g := by have := blk_lt HX.out; have := Hg.out; omega
      have y1 := blk_cell hbk2 1
      have g0 := blk_cell hg2 0
      have g1 := blk_cell hg2 1
      have g2 := blk_cell hg2 2
      have g3 := blk_cell hg2 3
      have hb3 : Below W2.heap.size W2 (W2.alloc (.cells #[.int .i64 r1, .int .i64 r2, .int .i64 r3, .int .i64 r4] 3)).drew := below_drew (below_alloc (Below.refl _ _) _)
      have HL : Aside0 (RdV (W2.alloc (.cells #[.int .i64 r1, .int .i64 r2, .int .i64 r3, .int .i64 r4] 3)).drew (.slice (some ⟨W2.heap.size, 0, none⟩) 4 4) [r1, r2, r3, r4]) := ⟨(OwI.lit W2 [r1, r2, r3, r4] (by simp)).toV.drew⟩
      have HT3 := Aside0.mk (hT2.below hb3)
      have HB3 := Aside0.mk hb3
      have Hbk2 := Aside0.mk hbk2
      have Hg2 := Aside0.mk hg2
      have Hrg := Aside0.mk hrg
      have Hx0 := Aside0.mk hx0
      have Hnx := Aside0.mk hnx
      have Hbel2 := Aside0.mk hbel2
      have Hng : Aside0 (¬ Hf g) := ⟨fun e => hngf e⟩
      have Hrs := Aside0.mk hrs
      clear hT2 hb3 hbk2 hg2 hrg hx0 hnx hbel2 hngf hxg hrs
      have hbr := Below.refl W2.heap.size W2
      go_wp2_with fail
      go_region_held3 (fun w' => w'.cell? ⟨x, 1, none⟩ = some (.pointer (some ⟨p, 0, none⟩)) ∧ w'.cell? ⟨g, 0, none⟩ = some (.int .i64 r1) ∧ w'.cell? ⟨g, 1, none⟩ = some (.int .i64 r2) ∧ w'.cell? ⟨g, 2, none⟩ = some (.int .i64 r3) ∧ w'.cell? ⟨g, 3, none⟩ = some (.int .i64 r4)) (first | (exact ⟨chg_cell hC6 Hnx.out (bel_cell HB3.out y1), chg_cell hC6 Hng.out (bel_cell HB3.out g0), chg_cell hC6 Hng.out (bel_cell HB3.out g1), chg_cell hC6 Hng.out (bel_cell HB3.out g2), chg_cell hC6 Hng.out (bel_cell HB3.out g3)⟩) | (refine ⟨bel_cell (wb := W2) ?_ y1, bel_cell (wb := W2) ?_ g0, bel_cell (wb := W2) ?_ g1, bel_cell (wb := W2) ?_ g2, bel_cell (wb := W2) ?_ g3⟩ <;> simp [*]))
        (first
          | (go_at_call 54; (refine (id_any p Hf [] tl _ [r1, r2, r3, r4] _ HT3.out HL.out HWr.out (by have := HLn.out; omega)).mono ?_); rintro e w6 ⟨rfl, hT6, hC6⟩; rw [← E1.out])
          | (fail))
      all_goals go_wp2_with fail
      go_ret
      refine ⟨rfl, ext Hf _ w6, ⟨by rw [E2.out]; exact hT6, fun k hk => ?_, by rw [hC6.block x (Nat.lt_of_lt_of_le (blk_lt Hbk2.out) HB3.out.size) Hnx.out, HB3.out.block x (blk_lt Hbk2.out)]; exact Hbk2.out, Hx0.out, ?_, (below_then Hbel2.out Hbel2.out.size HB3.out).trans (hC6.below (Nat.le_trans Hbel2.out.size HB3.out.size) (fun k hk => (Hrg.out k hk).1))⟩, (Hrs.out.andBelow HB3.out).then_ hC6 (fun k hk => .inl (.inl hk)), fun k hk => hk.elim .inl (fun hk => .inr (Nat.le_trans (Nat.le_trans Hrs.out.size HB3.out.size) hk.1))⟩
      · rcases hk with hk | hk
        · exact ⟨(Hrg.out k hk).1, Nat.lt_of_lt_of_le (Nat.lt_of_lt_of_le (Hrg.out k hk).2 HB3.out.size) hC6.size⟩
        · exact ⟨Nat.le_trans (Nat.le_trans Hbel2.out.size HB3.out.size) hk.1, hk.2⟩
      · rintro (hk | hk)
        · exact Hnx.out hk
        · exact absurd hk.1 (Nat.not_le.2 (Nat.lt_of_lt_of_le (blk_lt Hbk2.out) HB3.out.size))
end Go.Proofs.YtkbbliicijnpjaaDoor.Tx
