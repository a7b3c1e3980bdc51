/- ctx.Of. -/
import Derived.Test.YtkbbliicijnpjaaDoorCa
import Derived.Deep.RegionHeld3
namespace Go.Proofs.YtkbbliicijnpjaaDoor.Ca
open Go.RowKit Go.Proofs.YtkbbliicijnpjaaDoorW.PrintWords Go.Proofs.YtkbbliicijnpjaaDoorW.PrintLast Go.Proofs.YtkbbliicijnpjaaDoorW.PrintMore
open Go.Proofs.YtkbbliicijnpjaaDoor.PCtxMakes Go.Proofs.YtkbbliicijnpjaaDoor.Base
attribute [local go_sem] max2_int min2_int max_two min_two

def ofL (k : Int) (site : Int) (l : List Int) : List Int := lastL (clipI k) (l ++ [site])

set_option maxHeartbeats 4000000 in
set_option maxRecDepth 100000 in
theorem of_any (k site : Int) (u : Value) (l : List Int) (w : World) (hr : RdV w u l) (hb : l.length * 8 ≤ 140737488351232) :
    Calls Tryd.prog 15 #[.int .i64 k, .agg #[.int .i64 site, u]] w fun e w' => ∃ v, e = .returned v ∧ OwI w' w.heap.size v (ofL k site l) ∧ Below w.heap.size w w' := by
  obtain ⟨b, hbs⟩ : ∃ b, w.heap.size = b := ⟨_, rfl⟩
  have hwb : ∀ wb, w.alloc (.cells #[.int .i64 site, u] 36) = wb → wb.cell? ⟨b, 0, none⟩ = some (.int .i64 site) ∧ wb.cell? ⟨b, 1, none⟩ = some (u) ∧ RdV wb u l ∧ Below w.heap.size w wb := by
    rintro wb rfl
    subst hbs
    exact ⟨by simp, by simp, hr.alloc _, below_alloc (Below.refl _ _) _⟩
  have Hb := Aside0.mk hb
  clear hr hb
  have hk := clipI_bd k
  unfold ofL
  generalize hcl : clipI k = n at *
  have Hcl := Aside0.mk hcl
  clear hcl
  obtain ⟨h0, h3⟩ := hk
  go_enter Tryd.func15, Tryd.ntmps15
  go_wp2_with fail
  clear hbs
  generalize hq : w.alloc (.cells #[.int .i64 site, u] 36) = wb
  obtain ⟨c0, c1, hr, hB⟩ := hwb wb hq
  clear hwb hq
  have HBr := Below.refl wb.heap.size wb
  go_region_held3 (fun w' => w'.cell? ⟨b, 0, none⟩ = some (.int .i64 site) ∧ w'.cell? ⟨b, 1, none⟩ = some (u) ∧ Below wb.heap.size wb w') (first | (exact ⟨bel_cell HB1 c0, bel_cell HB1 c1, HB1⟩) | go_keep)
   (first | (go_at_call 44; (with_reducible refine (clip_any k _).mono ?_); rintro e w1 ⟨rfl, rfl⟩; rw [Hcl.out]) | (go_at_call 45; (with_reducible refine (clone_any u l _ (by simp [*]) (by have := Hb.out; omega)).mono ?_); rintro e w1 ⟨v1, rfl, H1, H2⟩; obtain ⟨hc1, hf1⟩ := bcell H2; have HB1 := bel_trans (wb := wb) (by simp [*]) H2; have H1' := OwI.lower (base' := wb.heap.size) H1 (bel_size (by simp [*]))) | (refine app_stepB (wb := wb) (by rfl) (.tmp 9) (.tmp 12) (by rfl) v1 _ l [site] (by rfl) (by rfl) (by simp [*]) (RdV.one (by simp [*])) (by simp [*]) (by have := Hb.out; simp; omega) ?_; intro v2 w2 H3 HB1 hg2 hat2; clear hg2 hat2; have H3v := H3.toV) | (go_at_call 43; (with_reducible refine (last_any n v2 (l ++ [site]) _ (by simp [*]) h0 (by omega) (by have := Hb.out; simp; omega)).mono ?_); rintro e w3 ⟨v3, rfl, H5, H6⟩; have HB1 := bel_trans (wb := wb) (by simp [*]) H6; have H5' := OwI.lower (base' := wb.heap.size) H5 (bel_size (by simp [*]))) | (fail))
  all_goals (go_wp2; go_ret; exact ⟨_, rfl, OwI.lower H5' hB.size, below_then hB hB.size HB1⟩)
end Go.Proofs.YtkbbliicijnpjaaDoor.Ca
