/- What came in of a graph's law, opened: edges, the graph; and the library's table lies in memory as the rows list it. -/
import Derived.Test.YtkpadjhdneiniaaGreatDoorAc
import Derived.Test.YtkpadjhdneiniaaGreatDoorOpen
import Derived.Lib.LaidTab
import Derived.Stop.LaidErr
import Derived.LaidMore
import Derived.Stop.Joined
namespace Go.Proofs.YtkpadjhdneiniaaGreatDoor.Rf
open Go.ChangeShapes Go.WideShapes Go.ChangeAt Go.RowKit Go.Joins Go.Deep Go.Proofs.YtkpadjhdneiniaaGreatDoorW.PrintWords
open Go.Proofs.YtkpadjhdneiniaaGreatDoor.Base Go.Proofs.YtkpadjhdneiniaaGreatDoor.Map Go.Proofs.YtkpadjhdneiniaaGreatDoor.Sl Go.Proofs.YtkpadjhdneiniaaGreatDoor.Ow Go.Proofs.YtkpadjhdneiniaaGreatDoor.Se Go.Proofs.YtkpadjhdneiniaaGreatDoor.Gr Go.Proofs.YtkpadjhdneiniaaGreatDoor.Open
set_option linter.unusedVariables false

set_option maxRecDepth 100000 in
theorem opens_edge : Opens Tryz.prog kE (fun e => ok64 e.1 ∧ ok64 e.2.1 ∧ ok64 e.2.2) 75 := by
  intro H enc w base spare held fuel cs x h
  obtain ⟨xs, m, _, _, hl, hx, hel⟩ := DataW.trod_array Tryz.underlying75 h
  have c3 : Tryz.prog.cellsOf 3 = 1 := cells3
  have c44 : Tryz.prog.cellsOf 75 = 3 := by kernel_rfl
  rw [c44] at hl
  match cs, hl with
  | [a, b, c], _ =>
    have g0 := hel 0 (by omega)
    have g1 := hel 1 (by omega)
    have g2 := hel 2 (by omega)
    simp only [c3, List.getElem?_eq_getElem (show 0 < xs.length by omega)] at g0
    simp only [c3, List.getElem?_eq_getElem (show 1 < xs.length by omega)] at g1
    simp only [c3, List.getElem?_eq_getElem (show 2 < xs.length by omega)] at g2
    obtain ⟨n0, e0, _, w0⟩ := DataW.trod_int Tryz.underlying3 g0
    obtain ⟨n1, e1, _, w1⟩ := DataW.trod_int Tryz.underlying3 g1
    obtain ⟨n2, e2, _, w2⟩ := DataW.trod_int Tryz.underlying3 g2
    simp at e0 e1 e2
    subst e0 e1 e2
    exact ⟨(n0, n1, n2), rfl, w0, w1, w2⟩
/-- what came in of a graph's edges: whole numbers -/
def okE (E : List GE) : Prop := ∀ e ∈ E, ok64 e.1 ∧ ok64 e.2.1 ∧ ok64 e.2.2
theorem opens_graph : Opens Tryz.prog (Kd.pair (Kd.slice 9 Kd.string) (Kd.slice 75 kE)) (fun x => (∀ s ∈ x.1, s.size ≤ maxLen) ∧ okE x.2) 25 :=
  opens_two Tryz.underlying25 (by kernel_rfl) (by kernel_rfl) (opens_slice Tryz.underlying22 (by kernel_rfl) (opens_string Tryz.underlying9)) (opens_slice Tryz.underlying23 (by kernel_rfl) opens_edge)
theorem graph_open {w : World} {x : List ByteArray × List GE} {cs : List Value} (h : (Kd.pair (Kd.slice 9 Kd.string) (Kd.slice 75 kE)).K w x cs) :
    ∃ A c A2 c2, cs = [.slice A x.1.length c, .slice A2 x.2.length c2] ∧ RdT w A x.1 ∧ RdE w A2 x.2 := by
  obtain ⟨_, _, rfl, ⟨A, c, rfl, _, h1⟩, ⟨A2, c2, rfl, _, h2⟩⟩ := h
  exact ⟨A, c, A2, c2, rfl, ⟨h1⟩, ⟨h2⟩⟩
theorem RdT.max {w : World} {A : Option Addr} {T : List ByteArray} (h : RdT w A T) : T.length ≤ 9223372036854775807 := h.out.2.1
theorem g0n : Tryz.prog.globalNamed "math/bits.deBruijn64tab" = some 0 := by kernel_rfl
theorem g0t : (Tryz.prog.globals[0]?).map (·.type) = some 162 := by kernel_rfl
theorem g1t : (Tryz.prog.globals[1]?).map (·.type) = some 202 := by kernel_rfl
theorem c5 : Tryz.prog.cellsOf 5 = 1 := by kernel_rfl
theorem c98 : Tryz.prog.cellsOf 147 = 1 := by kernel_rfl
theorem c113 : Tryz.prog.cellsOf 162 = 64 := by kernel_rfl
theorem c129 : Tryz.prog.cellsOf 202 = 20 := by kernel_rfl
theorem tz_datum : (Rows.laid_math_bits_deBruijn64tab : DataW Unit) = Lib.tabData .u8 (List.map (fun (n : Nat) => (n : Int)) Lib.deBruijn64tab) := by kernel_rfl
theorem p10_datum : (Rows.laid_internal_strconv_uint64pow10 : DataW Unit) = Lib.tabData .u64 Lib.pow10Tab := by kernel_rfl
abbrev laid3 : List (String × DataW Unit) := [("math/bits.deBruijn32tab", Rows.laid_math_bits_deBruijn32tab), ("math/bits.deBruijn64tab", Rows.laid_math_bits_deBruijn64tab), ("internal/strconv.uint64pow10", Rows.laid_internal_strconv_uint64pow10)]
theorem tz_of_laid {W : World} (h : laidMetH Tryz.prog laid3 W) : TZ W := by
  rw [MakeChecks.laidMetH_plain _ _ _ (by kernel_rfl)] at h
  have h := laidMet.tail h
  rw [tz_datum] at h
  have ht := Lib.tabIs_of_head g0n g0t Tryz.underlying162 Tryz.underlying5 c5 c113 h
  refine ⟨fun j hj => ?_⟩
  unfold Lib.TabIs World.var? at ht
  rw [g0n, Option.bind_some] at ht
  split at ht
  · next cs t' x' hh =>
    have hcs := Option.some.inj ht
    subst hcs
    refine (cell_of_row W 0 j _ _ _ hh).trans ?_
    rw [List.map_map, List.getElem?_toArray, List.getElem?_map, List.getElem?_eq_getElem hj]
    simp [List.getD_eq_getElem?_getD, List.getElem?_eq_getElem hj]
  · cases ht
theorem p10_of_laid {W : World} (h : laidMetH Tryz.prog laid3 W) : Tx.P10 W := by
  rw [MakeChecks.laidMetH_plain _ _ _ (by kernel_rfl)] at h
  have h3 := laidMet.tail (laidMet.tail h)
  rw [p10_datum] at h3
  exact ⟨Lib.tabIs_of_head Tx.g10 g1t Tryz.underlying202 Tryz.underlying147 c98 c129 h3⟩
end Go.Proofs.YtkpadjhdneiniaaGreatDoor.Rf
