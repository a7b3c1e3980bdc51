/- lex: the layer's example. -/
import Derived.Test.YtkbbliicijnpjaaDoorLl
namespace Go.Proofs.YtkbbliicijnpjaaDoor.Lx
open Go.RowKit Go.Proofs.YtkbbliicijnpjaaDoorW.PrintWords Go.Proofs.YtkbbliicijnpjaaDoorW.PrintLast Go.Proofs.YtkbbliicijnpjaaDoorW.PrintMore
open Go.Proofs.YtkbbliicijnpjaaDoor.Base Go.Proofs.YtkbbliicijnpjaaDoor.PLexTokens Go.Proofs.YtkbbliicijnpjaaDoor.PLexNames Go.Proofs.YtkbbliicijnpjaaDoor.Map
set_option linter.unusedVariables false

theorem eqA29 (d : Nat) (w : World) (x0 y0 : Int) (x1 y1 : Int) (x2 y2 : Int) :
    (Op.equalIn (d + 2) 29 (.agg #[.int .i64 x0, .int .i64 x1, .int .i64 x2]) (.agg #[.int .i64 y0, .int .i64 y1, .int .i64 y2])).run Tryd.prog w = .ok (x0 == y0 && (x1 == y1 && (x2 == y2))) w := by
  refine eqA_of Tryd.underlying29 (by kernel_rfl) ?_
  refine eqf_cons (by rfl) (by go_simp; rfl) (by go_simp; rfl) (by go_simp) ?_
  refine eqf_cons (by rfl) (by go_simp; rfl) (by go_simp; rfl) (by go_simp) ?_
  exact eqf_last (by rfl) (by go_simp; rfl) (by go_simp; rfl) (by go_simp)

abbrev exText : ByteArray := { data := #[120, 32, 61, 32, 121, 46, 102, 59] }
theorem ex_f : (winnowerref05_Tokens.f 40 exText).map (fun r => (r.1.length, (rd_T33 r.1 1).f0, (rd_T33 r.1 1).f1.data.toList, (rd_T33 r.1 1).f2.f0, (rd_T33 r.1 1).f2.f1, r.2)) = some (6, 2, [61], 1, 3, (1, 9, 0, 0, 0)) := by kernel_rfl
theorem ex_is {r : Out} (h : TokS exText r) : ∃ l, r = (l, 1, 9, 0, 0, 0) ∧ l.length = 6 ∧ rd_T33 l 1 = ⟨2, { data := #[61] }, ⟨1, 3⟩⟩ := by
  have h1 := ex_f
  rw [tok_ref h 40 (by decide)] at h1
  obtain ⟨l, q⟩ := r
  simp only [Option.map_some, Option.some.injEq, Prod.mk.injEq] at h1
  obtain ⟨g1, g2, g3, g4, g5, g6⟩ := h1
  refine ⟨l, by rw [g6], g1, ?_⟩
  have e : (rd_T33 l 1).f1 = { data := #[61] } := ba_ext g3
  generalize rd_T33 l 1 = t at *
  obtain ⟨a, b, c, d⟩ := t
  simp only at g2 e g4 g5
  subst g2 e g4 g5
  rfl

/-- two blocks, new -/
theorem two_new (w1 : World) (cs ds : Array Value) (s t : Nat) : ((w1.alloc (.cells cs s)).alloc (.cells ds t)).heap[w1.heap.size]? = some (.cells cs s (0, 0)) ∧ ((w1.alloc (.cells cs s)).alloc (.cells ds t)).heap[w1.heap.size + 1]? = some (.cells ds t (0, 0)) ∧ Below w1.heap.size w1 ((w1.alloc (.cells cs s)).alloc (.cells ds t)) := by
  refine ⟨blk_belowL (heap_alloc_new _ _) (below_alloc (Below.refl _ _) _), ?_, below_alloc (below_alloc (Below.refl _ _) _) _⟩
  rw [show w1.heap.size + 1 = (w1.alloc (.cells cs s)).heap.size by simp]
  exact heap_alloc_new _ _

attribute [local go_sem high] eqA26 eqA29 eqA33
set_option maxHeartbeats 4000000 in
set_option maxRecDepth 100000 in
theorem awake_any (w : World) : Calls Tryd.prog 8 #[] w fun e w' => e = .returned (.bool true) ∧ Below w.heap.size w w' := by
  have hu26 := Tryd.underlying26
  have hu29 := Tryd.underlying29
  have hu33 := Tryd.underlying33
  go_enter Tryd.func8, Tryd.ntmps8
  go_wp2_with fail
  go_at_call 13
  (with_reducible refine (tokens_any _ _).mono ?_)
  rintro e w1 ⟨v, r, rfl, hT, hR, hB⟩
  obtain ⟨l, rfl, hl, ht⟩ := ex_is hT
  obtain ⟨A, c, rfl, hc, hC⟩ := Kd.R_reads hR
  obtain ⟨ad, rfl, x0, x1, x2, x3⟩ := at_T33 hC 1 (by decide) (by rw [hl]; decide)
  rw [ht] at x0 x1 x2 x3
  have n1 : (1 : Int) < (l.length : Int) := by omega
  rw [hl] at n1 ⊢
  have HB := Aside0.mk hB
  clear hT hR hC hc hB ht
  go_upto_region 2 with (fail)
  obtain ⟨B1, B2, B3⟩ := two_new w1 #[.int .i64 1, .int .i64 9] #[.int .i64 0, .int .i64 0, .int .i64 0] 26 29
  replace HB := Aside0.mk (HB.out.trans (below_low B3 HB.out.size))
  have x0 := bel_cell B3 x0
  have x1 := bel_cell B3 x1
  have x2 := bel_cell B3 x2
  have x3 := bel_cell B3 x3
  rw [show Int.toNat 1 * 4 = 4 from rfl] at x0 x1 x2 x3
  have x1 : World.cell? _ ⟨ad.block, ad.off + 4 + 1, none⟩ = _ := x1
  have x2 : World.cell? _ ⟨ad.block, ad.off + 4 + 2, none⟩ = _ := x2
  have x3 : World.cell? _ ⟨ad.block, ad.off + 4 + 3, none⟩ = _ := x3
  generalize (w1.alloc (.cells #[.int .i64 1, .int .i64 9] 26)).alloc (.cells #[.int .i64 0, .int .i64 0, .int .i64 0] 29) = W at *
  have e0 := cell_of B1 0 _ rfl
  have e1 := cell_of B1 1 _ rfl
  have f0 := cell_of B2 0 _ rfl
  have f1 := cell_of B2 1 _ rfl
  have f2 := cell_of B2 2 _ rfl
  clear B1 B2 B3
  go_wp2
  go_ret
  exact ⟨rfl, HB.out⟩
end Go.Proofs.YtkbbliicijnpjaaDoor.Lx
