/- texts: the powers of ten lie in memory as the rows list them. -/
import Derived.Test.YtkbbliicijnpjaaDoorTa
import Derived.Test.YtkbbliicijnpjaaDoorOpen
import Derived.Lib.LaidTab
import Derived.Stop.LaidErr
import Derived.LaidMore
import Derived.Stop.Joined
namespace Go.Proofs.YtkbbliicijnpjaaDoor.Tx
open Go.RowKit
set_option linter.unusedVariables false

theorem g10t : (Tryd.prog.globals[2]?).map (·.type) = some 138 := by kernel_rfl
theorem c112 : Tryd.prog.cellsOf 112 = 1 := by kernel_rfl
theorem c138 : Tryd.prog.cellsOf 138 = 20 := by kernel_rfl
theorem p10_datum : (Rows.laid_internal_strconv_uint64pow10 : DataW Unit) = Lib.tabData .u64 Lib.pow10Tab := by kernel_rfl
theorem p10_of_laid {W : World} (h : laidMetH Tryd.prog [("math/bits.deBruijn32tab", Rows.laid_math_bits_deBruijn32tab), ("math/bits.deBruijn64tab", Rows.laid_math_bits_deBruijn64tab), ("internal/strconv.uint64pow10", Rows.laid_internal_strconv_uint64pow10)] W) : P10 W := by
  rw [MakeChecks.laidMetH_plain _ _ _ (by kernel_rfl)] at h
  have h3 := laidMet.tail (laidMet.tail h)
  rw [p10_datum] at h3
  exact ⟨Lib.tabIs_of_head g10 g10t Tryd.underlying138 Tryd.underlying112 c112 c138 h3⟩
end Go.Proofs.YtkbbliicijnpjaaDoor.Tx
