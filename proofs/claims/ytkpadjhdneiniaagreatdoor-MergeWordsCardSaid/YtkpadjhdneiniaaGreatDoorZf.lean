/- What came in: numbers, slices (texts that a trim took out of Open and Zc). -/
import Derived.Test.YtkpadjhdneiniaaGreatDoorZc
namespace Go.Proofs.YtkpadjhdneiniaaGreatDoor.Open
open Go.ChangeShapes Go.WideShapes Go.ChangeAt Go.RowKit Go.Joins Go.Deep Go.Proofs.YtkpadjhdneiniaaGreatDoorW.PrintWords
set_option linter.unusedVariables false
theorem opens_int {P : Program} {k : IntKind} {t : TypeId} (ht : P.underlying t = some (.int k)) : Opens P (Kd.int k) (fun x => (Lit.int k x).wf = true) t := by
  intro H enc w base spare held fuel cs x h
  obtain ⟨n, rfl, _, hw⟩ := DataW.trod_int ht h
  exact ⟨n, rfl, hw⟩
theorem open_sl {H : Type} {enc : TypeId × Value → H} {α : Type} {P : Program} {d : Kd α} {ok : List α → Prop} {t e : TypeId} {w : World} {r : Reach} {b0 base : Nat} {spare : Nat → Bool} {held : Bool} {v : Value} {y : DataW H} {p : List MemPlace}
    (hu : P.underlying t = some (.slice e)) (ho : Opens P (Kd.slice e d) ok t) (hv : Value.okWide P w r b0 t v) (h : DataW.Trod enc P w base spare held t v y p) :
    ∃ (l : List α) (A : Option Addr) (c : Nat), v = .slice A l.length c ∧ l.length ≤ c ∧ d.C w A l.length l ∧ ok l := by
  obtain ⟨a, len, cap, rfl⟩ := okWide_slice hu hv
  obtain ⟨fuel, hf⟩ := h
  obtain ⟨l, ⟨A, c, hcs, hl, hC⟩, hok⟩ := ho H enc w base spare held fuel _ _ hf
  simp [Value.cells] at hcs
  obtain ⟨rfl, rfl, rfl⟩ := hcs
  exact ⟨l, _, _, rfl, hl, hC, hok⟩
end Go.Proofs.YtkpadjhdneiniaaGreatDoor.Open
namespace Go.Proofs.YtkpadjhdneiniaaGreatDoor.Rf
open Go.ChangeShapes Go.WideShapes Go.ChangeAt Go.RowKit Go.Joins Go.Deep Go.Proofs.YtkpadjhdneiniaaGreatDoorW.PrintWords
open Go.Proofs.YtkpadjhdneiniaaGreatDoor.Base Go.Proofs.YtkpadjhdneiniaaGreatDoor.Map Go.Proofs.YtkpadjhdneiniaaGreatDoor.Sl Go.Proofs.YtkpadjhdneiniaaGreatDoor.Ow Go.Proofs.YtkpadjhdneiniaaGreatDoor.Se Go.Proofs.YtkpadjhdneiniaaGreatDoor.Gr Go.Proofs.YtkpadjhdneiniaaGreatDoor.Open
set_option linter.unusedVariables false
theorem opens_ints : Opens Tryz.prog (Kd.slice 3 (Kd.int .i64)) (fun l => ∀ y ∈ l, (Lit.int .i64 y).wf = true) 26 := opens_slice Tryz.underlying26 (by kernel_rfl) (opens_int Tryz.underlying3)
end Go.Proofs.YtkpadjhdneiniaaGreatDoor.Rf
