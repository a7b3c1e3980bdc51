/- nodes that came in. -/
import Derived.Test.YtkbbliicijnpjaaDoorOpen
import Derived.Test.YtkbbliicijnpjaaDoorVh
namespace Go.Proofs.YtkbbliicijnpjaaDoor.Tx
open Go.ChangeShapes Go.WideShapes Go.ChangeAt Go.RowKit Go.Joins Go.Deep Go.Proofs.YtkbbliicijnpjaaDoorW.PrintWords Go.Proofs.YtkbbliicijnpjaaDoor.Open Go.Proofs.YtkbbliicijnpjaaDoor.PNodeIds
set_option linter.unusedVariables false
/-- four in line -/
theorem opens_four {α0 α1 α2 α3 : Type} {P : Program} {d0 : Kd α0} {d1 : Kd α1} {d2 : Kd α2} {d3 : Kd α3} {ok0 : α0 → Prop} {ok1 : α1 → Prop} {ok2 : α2 → Prop} {ok3 : α3 → Prop} {t : TypeId} {f0 f1 f2 f3 : Field} (hs : P.underlying t = some (.struct #[f0, f1, f2, f3])) (hone : oneCellFields P #[f0, f1, f2, f3] = true) (hC : P.cellsOf t = 4)
    (h0 : Opens P d0 ok0 f0.type) (h1 : Opens P d1 ok1 f1.type) (h2 : Opens P d2 ok2 f2.type) (h3 : Opens P d3 ok3 f3.type) : Opens P (Kd.pair d0 (Kd.pair d1 (Kd.pair d2 d3))) (fun x => ok0 x.1 ∧ ok1 x.2.1 ∧ ok2 x.2.2.1 ∧ ok3 x.2.2.2) t := by
  intro H enc w base spare held fuel cs x h
  obtain ⟨y0, y1, y2, y3, n, hx, hl, g0, g1, g2, g3⟩ := trod_struct4 hs h
  obtain ⟨o0, k0⟩ := hone_of hone 0 f0 rfl
  obtain ⟨o1, k1⟩ := hone_of hone 1 f1 rfl
  obtain ⟨o2, k2⟩ := hone_of hone 2 f2 rfl
  obtain ⟨o3, k3⟩ := hone_of hone 3 f3 rfl
  match cs, hl.trans hC with
  | [c0, c1, c2, c3], _ =>
    have g0' : DataW.trod enc P w base spare held n f0.type [c0] = some y0 := by simpa [o0, k0] using g0
    have g1' : DataW.trod enc P w base spare held n f1.type [c1] = some y1 := by simpa [o1, k1] using g1
    have g2' : DataW.trod enc P w base spare held n f2.type [c2] = some y2 := by simpa [o2, k2] using g2
    have g3' : DataW.trod enc P w base spare held n f3.type [c3] = some y3 := by simpa [o3, k3] using g3
    obtain ⟨a0, ha0, hk0⟩ := h0 H enc w base spare held n _ _ g0'
    obtain ⟨a1, ha1, hk1⟩ := h1 H enc w base spare held n _ _ g1'
    obtain ⟨a2, ha2, hk2⟩ := h2 H enc w base spare held n _ _ g2'
    obtain ⟨a3, ha3, hk3⟩ := h3 H enc w base spare held n _ _ g3'
    exact ⟨(a0, a1, a2, a3), ⟨[c0], [c1, c2, c3], rfl, ha0, ⟨[c1], [c2, c3], rfl, ha1, ⟨[c2], [c3], rfl, ha2, ha3⟩⟩⟩, hk0, hk1, hk2, hk3⟩
theorem opens_node : Opens Tryd.prog k46 okS 46 := by
  intro H enc w base spare held fuel cs x h
  obtain ⟨a, hK, hok⟩ := opens_four Tryd.underlying46 (by kernel_rfl) (by kernel_rfl) (opens_int Tryd.underlying3) (opens_int Tryd.underlying3) (opens_int Tryd.underlying3) (opens_int Tryd.underlying3) H enc w base spare held fuel cs x h
  exact ⟨⟨a.1, a.2.1, a.2.2.1, a.2.2.2⟩, hK, hok.2⟩
theorem opens_nodes : Opens Tryd.prog (Kd.slice 46 k46) (fun l => ∀ x ∈ l, okS x) 63 := opens_slice Tryd.underlying63 (by kernel_rfl) opens_node
end Go.Proofs.YtkbbliicijnpjaaDoor.Tx
