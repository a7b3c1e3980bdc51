/- nodes: Node. -/
import Derived.Test.YtkbbliicijnpjaaDoorVl
namespace Go.Proofs.YtkbbliicijnpjaaDoor.Tx
open Go.RowKit Go.Proofs.YtkbbliicijnpjaaDoorW.PrintWords Go.Proofs.YtkbbliicijnpjaaDoorW.PrintLast Go.Proofs.YtkbbliicijnpjaaDoorW.PrintMore
open Go.Proofs.YtkbbliicijnpjaaDoor.Base Go.Proofs.YtkbbliicijnpjaaDoor.Map Go.Proofs.YtkbbliicijnpjaaDoor.Ca Go.Proofs.YtkbbliicijnpjaaDoor.Qu Go.Proofs.YtkbbliicijnpjaaDoor.In Go.Proofs.YtkbbliicijnpjaaDoor.Kx Go.Maps Go.Proofs.YtkbbliicijnpjaaDoor.PNodeIds
set_option linter.unusedVariables false

set_option maxHeartbeats 2000000 in
set_option maxRecDepth 100000 in
theorem node_nk (w0 w : World) (x p q : Nat) (tl : List (List Int)) (id : Int) (h : NK w0 w x p q tl) (s : S46) (b : Bool) (ht : (b = true ∧ tupleOf tl id = toT s) ∨ (b = false ∧ s = z46 ∧ tupleOf tl id = [])) :
    Calls Tryd.prog 36 #[.pointer (some ⟨x, 0, none⟩), .int .i64 id] w fun e w' => e = .returned (.tuple #[.agg #[.int .i64 s.f0, .int .i64 s.f1, .int .i64 s.f2, .int .i64 s.f3], .bool b]) ∧ Below w.heap.size w w' := by
  have H := Aside0.mk h
  have HX := Aside0.mk h.blk
  have HT := Aside0.mk ht
  obtain ⟨g, hg⟩ : ∃ g, w.heap.size = g := ⟨_, rfl⟩
  have hwb : ∀ wb, w.alloc (.cells #[.int .i64 0, .int .i64 0, .int .i64 0, .int .i64 0] 46) = wb → wb.heap[g]? = some (.cells #[.int .i64 0, .int .i64 0, .int .i64 0, .int .i64 0] 46 (0, 0)) ∧ Below w.heap.size w wb := by
    rintro wb rfl
    subst hg
    exact ⟨heap_alloc_new _ _, below_alloc (Below.refl _ _) _⟩
  clear h ht
  go_enter Tryd.func36, Tryd.ntmps36
  go_upto_region 1 with (fail)
  have Hg := Aside0.mk hg
  clear hg
  generalize hqw : w.alloc (.cells #[.int .i64 0, .int .i64 0, .int .i64 0, .int .i64 0] 46) = wb
  obtain ⟨B0, hB⟩ := hwb wb hqw
  clear hwb hqw
  have HB := Aside0.mk hB
  have HB0 := Aside0.mk B0
  have HN := Aside0.mk (H.out.below hB)
  have x1 := blk_cell HN.out.blk 1
  obtain ⟨F, hF⟩ := HN.out.tab
  clear B0 hB
  go_wp2_with fail
  refine (tuple_tab p F [] tl wb hF id).mono ?_
  rintro e w1 ⟨v, rfl, h1, b1⟩
  have HB1 := Aside0.mk (below_then HB.out HB.out.size b1)
  have HG1 := Aside0.mk (blk_below' HB0.out b1)
  clear hF b1 x1
  have hge : w.heap.size ≤ g := Nat.le_of_eq Hg.out
  rcases HT.out with ⟨rfl, ht⟩ | ⟨rfl, rfl, ht⟩
  · rw [ht] at h1
    obtain ⟨A, c, rfl, hc, hr⟩ := h1.rd
    obtain ⟨r1, r2, r3, r4⟩ := s
    rw [show toT ⟨r1, r2, r3, r4⟩ = [r1, r2, r3, r4] from rfl] at *
    have hlc : ([r1, r2, r3, r4] : List Int).length = 4 := rfl
    rw [hlc] at *
    clear hlc
    obtain ⟨ad, rfl, k0⟩ := hr.at_ 0 (by decide) (by simp)
    obtain ⟨ad1, e1, k1⟩ := hr.at_ 1 (by decide) (by simp)
    obtain ⟨ad2, e2, k2⟩ := hr.at_ 2 (by decide) (by simp)
    obtain ⟨ad3, e3, k3⟩ := hr.at_ 3 (by decide) (by simp)
    cases e1
    cases e2
    cases e3
    have k0 : w1.cell? ad = some (.int .i64 r1) := k0
    have k1 : w1.cell? ⟨ad.block, ad.off + 1, none⟩ = some (.int .i64 r2) := k1
    have k2 : w1.cell? ⟨ad.block, ad.off + 2, none⟩ = some (.int .i64 r3) := k2
    have k3 : w1.cell? ⟨ad.block, ad.off + 3, none⟩ = some (.int .i64 r4) := k3
    have f0 := blk_frozen HG1.out 0
    have f1 := blk_frozen HG1.out 1
    have f2 := blk_frozen HG1.out 2
    have f3 := blk_frozen HG1.out 3
    have c0 := blk_cell HG1.out 0
    have c1 := blk_cell HG1.out 1
    have c2 := blk_cell HG1.out 2
    have c3 := blk_cell HG1.out 3
    have hdr : Below w1.heap.size w1 w1.drew := below_drew (Below.refl _ _)
    have P0 := blk_put (blk_put (blk_put (blk_put (blk_below' HG1.out hdr) 0 (.int .i64 r1) rfl) 1 (.int .i64 r2) rfl) 2 (.int .i64 r3) rfl) 3 (.int .i64 r4) rfl
    have PB := below_setCell (below_setCell (below_setCell (below_setCell (below_then HB1.out HB1.out.size hdr) (p := ⟨g, 0, none⟩) hge (.int .i64 r1)) (p := ⟨g, 1, none⟩) hge (.int .i64 r2)) (p := ⟨g, 2, none⟩) hge (.int .i64 r3)) (p := ⟨g, 3, none⟩) hge (.int .i64 r4)
    have HP0 := Aside0.mk P0
    have HPB := Aside0.mk PB
    clear P0 PB hr hc h1 ht hge
    go_wp2_with fail
    go_region
    all_goals go_wp2
    refine bodyPost_ret (results_ct rfl _ _ g 46 #[.int .i64 r1, .int .i64 r2, .int .i64 r3, .int .i64 r4] (0, 0) _ rfl HP0.out Tryd.underlying46 rfl (by kernel_rfl)) rfl ?_
    exact ⟨rfl, HPB.out⟩
  · rw [ht] at h1
    obtain ⟨A, c, rfl, hc, hr⟩ := h1.rd
    have f0 := blk_frozen HG1.out 0
    have f1 := blk_frozen HG1.out 1
    have f2 := blk_frozen HG1.out 2
    have f3 := blk_frozen HG1.out 3
    have c0 := blk_cell HG1.out 0
    have c1 := blk_cell HG1.out 1
    have c2 := blk_cell HG1.out 2
    have c3 := blk_cell HG1.out 3
    have P0 := blk_put (blk_put (blk_put (blk_put HG1.out 0 (.int .i64 0) rfl) 1 (.int .i64 0) rfl) 2 (.int .i64 0) rfl) 3 (.int .i64 0) rfl
    have PB := below_setCell (below_setCell (below_setCell (below_setCell HB1.out (p := ⟨g, 0, none⟩) hge (.int .i64 0)) (p := ⟨g, 1, none⟩) hge (.int .i64 0)) (p := ⟨g, 2, none⟩) hge (.int .i64 0)) (p := ⟨g, 3, none⟩) hge (.int .i64 0)
    have HP0 := Aside0.mk P0
    have HPB := Aside0.mk PB
    clear P0 PB hr hc h1 ht hge
    go_wp2_with fail
    refine bodyPost_ret (results_ct rfl _ _ g 46 #[.int .i64 0, .int .i64 0, .int .i64 0, .int .i64 0] (0, 0) _ rfl HP0.out Tryd.underlying46 rfl (by kernel_rfl)) rfl ?_
    exact ⟨rfl, HPB.out⟩
end Go.Proofs.YtkbbliicijnpjaaDoor.Tx
