/- names: the keywords lie in memory as the row lists them. -/
import Derived.Test.YtkbbliicijnpjaaDoorNb
import Derived.Test.YtkbbliicijnpjaaDoorOpen
import Derived.LaidMore
import Derived.Stop.Joined
namespace Go.Proofs.YtkbbliicijnpjaaDoor.Lx
open Go.ChangeShapes Go.WideShapes Go.ChangeAt Go.RowKit Go.Joins Go.Deep Go.Proofs.YtkbbliicijnpjaaDoorW.PrintWords Go.Proofs.YtkbbliicijnpjaaDoorW.PrintLast Go.Proofs.YtkbbliicijnpjaaDoorW.PrintMore
open Go.Proofs.YtkbbliicijnpjaaDoor.Base Go.Proofs.YtkbbliicijnpjaaDoor.PLexTokens Go.Proofs.YtkbbliicijnpjaaDoor.PLexNames Go.Proofs.YtkbbliicijnpjaaDoor.Map
set_option linter.unusedVariables false

theorem rdOf_at (l : List ByteArray) (j : Nat) (h : j < l.length) : l[j] = rdOf ByteArray.empty l (j : Int) := by
  simp [rdOf, List.getD, List.getElem?_eq_getElem h]
theorem gKw : Tryd.prog.globalNamed "winnower/lex.keywords" = some 0 := by kernel_rfl
theorem tKw : (Tryd.prog.globals[0]?).map (·.type) = some 75 := by kernel_rfl
theorem c9 : Tryd.prog.cellsOf 9 = 1 := by kernel_rfl
theorem c75 : Tryd.prog.cellsOf 75 = 22 := by kernel_rfl
theorem kw_datum : (Rows.laid_winnower_lex_keywords : DataW Unit) = .agg (kwL.map fun s => .lit (.string s.data.toList)) := rfl

theorem kw_of_laid {W : World} (h : laidMetH Tryd.prog [("winnower/lex.keywords", Rows.laid_winnower_lex_keywords)] W) : KwIn W := by
  rw [MakeChecks.laidMetH_plain _ _ _ (by kernel_rfl)] at h
  obtain ⟨ps, ⟨g0, t0, cs0, f0, p0, q0, hg0, ht0, hv0, hd0, _⟩, _, _⟩ := h
  obtain rfl := Option.some.inj (gKw.symm.trans hg0)
  obtain rfl := Option.some.inj (tKw.symm.trans ht0)
  obtain ⟨xs, m1, rfl, hx1, hlen, hn3, hel⟩ := DataW.trod_array Tryd.underlying75 hd0
  rw [kw_datum] at hx1
  simp only [Prod.mk.injEq, DataW.agg.injEq] at hx1
  rw [c75] at hlen
  have hcell : ∀ i : Nat, i < 22 → W.cell? ⟨0, i, none⟩ = some (.string (rdOf ByteArray.empty kwL (i : Int))) := by
    intro i hi
    have h1 := hel i hi
    rw [c9, Nat.mul_one] at h1
    have hi2 : i < xs.length := by rw [hn3]; exact hi
    rw [List.getElem?_eq_getElem hi2] at h1
    obtain ⟨s, e1, e2, _⟩ := DataW.trod_string Tryd.underlying9 h1
    have h2 : (kwL.map fun s => (DataW.lit (.string s.data.toList) : DataW Unit))[i]? = some (DataW.lit (.string s.data.toList)) := by
      rw [hx1.1, List.getElem?_map, List.getElem?_eq_getElem hi2, e2]
      rfl
    rw [List.getElem?_map, List.getElem?_eq_getElem (show i < kwL.length from hi)] at h2
    simp only [Option.map_some, Option.some.injEq, DataW.lit.injEq, Lit.string.injEq] at h2
    have hs : kwL[i] = s := ba_ext h2
    have h3 : cs0.toList[i]? = some (.string s) := by
      have h4 : ((cs0.toList.drop i).take 1)[0]? = some (.string s) := by rw [e1]; rfl
      rw [List.getElem?_take, if_pos (by omega), List.getElem?_drop, Nat.add_zero] at h4
      exact h4
    rw [World.var?_cell gKw hv0 i, ← Array.getElem?_toList, h3, ← hs, rdOf_at kwL i hi]
  refine ⟨Kd.C_of_reads (enc := Value.string) (d := ByteArray.empty) (h1 := fun _ => rfl) ⟨rfl, by decide, fun _ => ⟨_, rfl, fun j hj => ?_⟩⟩⟩
  have h5 := hcell j hj
  have h6 : (⟨0, 0, none⟩ : Addr).add j = ⟨0, j, none⟩ := by
    unfold Addr.add
    split
    · rename_i h7; subst h7; rfl
    · simp
  rw [h6]
  exact h5
end Go.Proofs.YtkbbliicijnpjaaDoor.Lx
