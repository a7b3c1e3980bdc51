/- MergeNone: the row's closed facts. -/
import Derived.Test.YtkpadjhdneiniaaGreatDoorTie
import Derived.Test.YtkpadjhdneiniaaGreatDoorCards
import Derived.LaidMore
import Derived.Stop.Joined
import Derived.SevenTiedAt
import Derived.Test.YtkpadjhdneiniaaGreatDoorOpen
namespace Go.Proofs.YtkpadjhdneiniaaGreatDoor.mergeNone
open Go.ChangeShapes Go.WideShapes Go.ChangeAt Go.RowKit Go.Joins Go.Deep Go.Proofs.YtkpadjhdneiniaaGreatDoorW.PrintWords
theorem and_in {a b : Bool} (ha : a = true) (hb : b = true) : (a && b) = true := by rw [ha, hb]; rfl
set_option maxHeartbeats 64000000 in
set_option maxRecDepth 100000 in
theorem facts : joinedFacts Tryz.pinned.checked.prog 14 Tryz.f14 Rows.mergeNoneSpec Rows.mergeNoneRow = true := by
  unfold joinedFacts
  repeat' (with_reducible apply and_in)
  all_goals (as_aux_lemma => kernel_rfl)
end Go.Proofs.YtkpadjhdneiniaaGreatDoor.mergeNone
