/-
  No cell of these rows narrows 'for every input' (looked for: loops, veiled, ifaces, maps, wideKeys, modest, calm, conditions, laid).
  DERIVED. THE GIVEN ROWS OF THIS SEAT. 18 by the template 'for every input the law returns true; each argument reads behind the call as it read before'; 0 by the template 'total and deterministic' (their statements: YtmaoadlighjkpaaTotals.lean).
  GIVEN WITH THE SEED: the statements are not yours to turn. If you find one false, say at which input.
  Laid BY PROGRAM, IN A SANDBOX (cutbox-rows.mjs): the forced cells as the released guide's own fill.sh prints them over the translation bf82fff0fbe61835… (all of the seat's roots in one cut). By AI agents, Wed Nov 11 2026. No macro, syntax, notation, axiom, sorry.
-/
import Derived.Test.YtmaoadlighjkpaaChecked
import GoSem.Claim
import GoSem.ClaimJoined
import GoSem.ClaimMapViews
import Derived.JoinedTies
import Derived.KernelRfl
namespace Go.Proofs.Ytmaoadlighjkpaa
/- THE CELL 'sum', in the pinned program and in every row, IS THE sha256 OF THE DUMP (.gsa) THAT YtmaoadlighjkpaaProg.lean LOADS. Nothing in Lean hashes anything: it is a label: what it is worth is what the hold of that sum in a sandbox is worth. -/
noncomputable def Try.pinned : Pinned := { name := "ytmaoadlighjkpaa", sum := "bf82fff0fbe61835a96a8e5f7878f53bef6b33ba6c15d1918f12e5fb05b7d19e", checked := Try.checked }
namespace Rows
def none {H : Type} : Left H := { results := [], args := [] }

/-- 'winnowerlaw16.CtxDeep': WHATEVER THE INPUT: true; the input reads as it did. -/
def ctxDeepSpec : ChangeSpec := { name := "ctxDeep", fn := fun _ => fun
  | [d1, d2] => { results := [.lit (.bool true)], args := [d1, d2] }
  | _ => none }
def ctxDeepRow : OpenClaim := { program := "ytmaoadlighjkpaa", sum := "bf82fff0fbe61835a96a8e5f7878f53bef6b33ba6c15d1918f12e5fb05b7d19e", func := "winnower/winnowerlaw16.CtxDeep", spec := "ctxDeep", plainKeys := false, apart := false }
def CtxDeepSaid : Prop := ctxDeepRow.holds Try.pinned (OpenSpec.ofChange ctxDeepSpec)

/-- ITS FALSE NEIGHBOUR: 'it returns false'. Refute it at one input. -/
def ctxDeepWrong : ChangeSpec := { name := "ctxDeep", fn := fun _ => fun
  | [d1, d2] => { results := [.lit (.bool false)], args := [d1, d2] }
  | _ => none }
def CtxDeepWrongFalsely : Prop := ctxDeepRow.holds Try.pinned (OpenSpec.ofChange ctxDeepWrong)

/-- 'winnowerlaw16.CtxEnds': WHATEVER THE INPUT: true; the input reads as it did. -/
def ctxEndsSpec : ChangeSpec := { name := "ctxEnds", fn := fun _ => fun
  | [d1, d2] => { results := [.lit (.bool true)], args := [d1, d2] }
  | _ => none }
def ctxEndsRow : OpenClaim := { program := "ytmaoadlighjkpaa", sum := "bf82fff0fbe61835a96a8e5f7878f53bef6b33ba6c15d1918f12e5fb05b7d19e", func := "winnower/winnowerlaw16.CtxEnds", spec := "ctxEnds", plainKeys := false, apart := false }
def CtxEndsSaid : Prop := ctxEndsRow.holds Try.pinned (OpenSpec.ofChange ctxEndsSpec)

/-- ITS FALSE NEIGHBOUR: 'it returns false'. Refute it at one input. -/
def ctxEndsWrong : ChangeSpec := { name := "ctxEnds", fn := fun _ => fun
  | [d1, d2] => { results := [.lit (.bool false)], args := [d1, d2] }
  | _ => none }
def CtxEndsWrongFalsely : Prop := ctxEndsRow.holds Try.pinned (OpenSpec.ofChange ctxEndsWrong)

/-- 'winnowerlaw04.InternPads': WHATEVER THE INPUT: true; the input reads as it did. -/
def internPadsSpec : ChangeSpec := { name := "internPads", fn := fun _ => fun
  | [d1, d2] => { results := [.lit (.bool true)], args := [d1, d2] }
  | _ => none }
def internPadsRow : OpenClaim := { program := "ytmaoadlighjkpaa", sum := "bf82fff0fbe61835a96a8e5f7878f53bef6b33ba6c15d1918f12e5fb05b7d19e", func := "winnower/winnowerlaw04.InternPads", spec := "internPads", plainKeys := false, apart := false }
def InternPadsSaid : Prop := internPadsRow.holds Try.pinned (OpenSpec.ofChange internPadsSpec)

/-- ITS FALSE NEIGHBOUR: 'it returns false'. Refute it at one input. -/
def internPadsWrong : ChangeSpec := { name := "internPads", fn := fun _ => fun
  | [d1, d2] => { results := [.lit (.bool false)], args := [d1, d2] }
  | _ => none }
def InternPadsWrongFalsely : Prop := internPadsRow.holds Try.pinned (OpenSpec.ofChange internPadsWrong)

/-- 'winnowerlaw03.QueueOrder': WHATEVER THE INPUT: true; the input reads as it did. -/
def queueOrderSpec : ChangeSpec := { name := "queueOrder", fn := fun _ => fun
  | [d1, d2] => { results := [.lit (.bool true)], args := [d1, d2] }
  | _ => none }
def queueOrderRow : OpenClaim := { program := "ytmaoadlighjkpaa", sum := "bf82fff0fbe61835a96a8e5f7878f53bef6b33ba6c15d1918f12e5fb05b7d19e", func := "winnower/winnowerlaw03.QueueOrder", spec := "queueOrder", plainKeys := false, apart := false }
def QueueOrderSaid : Prop := queueOrderRow.holds Try.pinned (OpenSpec.ofChange queueOrderSpec)

/-- ITS FALSE NEIGHBOUR: 'it returns false'. Refute it at one input. -/
def queueOrderWrong : ChangeSpec := { name := "queueOrder", fn := fun _ => fun
  | [d1, d2] => { results := [.lit (.bool false)], args := [d1, d2] }
  | _ => none }
def QueueOrderWrongFalsely : Prop := queueOrderRow.holds Try.pinned (OpenSpec.ofChange queueOrderWrong)

/-- 'winnowerlaw03.QueueActs': WHATEVER THE INPUT: true; the input reads as it did. -/
def queueActsSpec : ChangeSpec := { name := "queueActs", fn := fun _ => fun
  | [d1, d2] => { results := [.lit (.bool true)], args := [d1, d2] }
  | _ => none }
def queueActsRow : OpenClaim := { program := "ytmaoadlighjkpaa", sum := "bf82fff0fbe61835a96a8e5f7878f53bef6b33ba6c15d1918f12e5fb05b7d19e", func := "winnower/winnowerlaw03.QueueActs", spec := "queueActs", plainKeys := false, apart := false }
def QueueActsSaid : Prop := queueActsRow.holds Try.pinned (OpenSpec.ofChange queueActsSpec)

/-- ITS FALSE NEIGHBOUR: 'it returns false'. Refute it at one input. -/
def queueActsWrong : ChangeSpec := { name := "queueActs", fn := fun _ => fun
  | [d1, d2] => { results := [.lit (.bool false)], args := [d1, d2] }
  | _ => none }
def QueueActsWrongFalsely : Prop := queueActsRow.holds Try.pinned (OpenSpec.ofChange queueActsWrong)

/-- 'winnowerlaw03.QueueRound': WHATEVER THE INPUT: true; the input reads as it did. -/
def queueRoundSpec : ChangeSpec := { name := "queueRound", fn := fun _ => fun
  | [d1, d2] => { results := [.lit (.bool true)], args := [d1, d2] }
  | _ => none }
def queueRoundRow : OpenClaim := { program := "ytmaoadlighjkpaa", sum := "bf82fff0fbe61835a96a8e5f7878f53bef6b33ba6c15d1918f12e5fb05b7d19e", func := "winnower/winnowerlaw03.QueueRound", spec := "queueRound", plainKeys := false, apart := false }
def QueueRoundSaid : Prop := queueRoundRow.holds Try.pinned (OpenSpec.ofChange queueRoundSpec)

/-- ITS FALSE NEIGHBOUR: 'it returns false'. Refute it at one input. -/
def queueRoundWrong : ChangeSpec := { name := "queueRound", fn := fun _ => fun
  | [d1, d2] => { results := [.lit (.bool false)], args := [d1, d2] }
  | _ => none }
def QueueRoundWrongFalsely : Prop := queueRoundRow.holds Try.pinned (OpenSpec.ofChange queueRoundWrong)

/-- 'winnowerlaw03.QueueFull': WHATEVER THE INPUT: true; the input reads as it did. -/
def queueFullSpec : ChangeSpec := { name := "queueFull", fn := fun _ => fun
  | [d1, d2] => { results := [.lit (.bool true)], args := [d1, d2] }
  | _ => none }
def queueFullRow : OpenClaim := { program := "ytmaoadlighjkpaa", sum := "bf82fff0fbe61835a96a8e5f7878f53bef6b33ba6c15d1918f12e5fb05b7d19e", func := "winnower/winnowerlaw03.QueueFull", spec := "queueFull", plainKeys := false, apart := false }
def QueueFullSaid : Prop := queueFullRow.holds Try.pinned (OpenSpec.ofChange queueFullSpec)

/-- ITS FALSE NEIGHBOUR: 'it returns false'. Refute it at one input. -/
def queueFullWrong : ChangeSpec := { name := "queueFull", fn := fun _ => fun
  | [d1, d2] => { results := [.lit (.bool false)], args := [d1, d2] }
  | _ => none }
def QueueFullWrongFalsely : Prop := queueFullRow.holds Try.pinned (OpenSpec.ofChange queueFullWrong)

/-- 'winnowerlaw04.InternIds': WHATEVER THE INPUT: true; the input reads as it did. -/
def internIdsSpec : ChangeSpec := { name := "internIds", fn := fun _ => fun
  | [d1, d2, d3] => { results := [.lit (.bool true)], args := [d1, d2, d3] }
  | _ => none }
def internIdsRow : OpenClaim := { program := "ytmaoadlighjkpaa", sum := "bf82fff0fbe61835a96a8e5f7878f53bef6b33ba6c15d1918f12e5fb05b7d19e", func := "winnower/winnowerlaw04.InternIds", spec := "internIds", plainKeys := false, apart := false }
def InternIdsSaid : Prop := internIdsRow.holds Try.pinned (OpenSpec.ofChange internIdsSpec)

/-- ITS FALSE NEIGHBOUR: 'it returns false'. Refute it at one input. -/
def internIdsWrong : ChangeSpec := { name := "internIds", fn := fun _ => fun
  | [d1, d2, d3] => { results := [.lit (.bool false)], args := [d1, d2, d3] }
  | _ => none }
def InternIdsWrongFalsely : Prop := internIdsRow.holds Try.pinned (OpenSpec.ofChange internIdsWrong)

/-- 'winnowerlaw04.InternTexts': WHATEVER THE INPUT: true; the input reads as it did. -/
def internTextsSpec : ChangeSpec := { name := "internTexts", fn := fun _ => fun
  | [d1, d2] => { results := [.lit (.bool true)], args := [d1, d2] }
  | _ => none }
def internTextsRow : OpenClaim := { program := "ytmaoadlighjkpaa", sum := "bf82fff0fbe61835a96a8e5f7878f53bef6b33ba6c15d1918f12e5fb05b7d19e", func := "winnower/winnowerlaw04.InternTexts", spec := "internTexts", plainKeys := false, apart := false }
def InternTextsSaid : Prop := internTextsRow.holds Try.pinned (OpenSpec.ofChange internTextsSpec)

/-- ITS FALSE NEIGHBOUR: 'it returns false'. Refute it at one input. -/
def internTextsWrong : ChangeSpec := { name := "internTexts", fn := fun _ => fun
  | [d1, d2] => { results := [.lit (.bool false)], args := [d1, d2] }
  | _ => none }
def InternTextsWrongFalsely : Prop := internTextsRow.holds Try.pinned (OpenSpec.ofChange internTextsWrong)

/-- 'winnowerlaw02.UnionTwo': WHATEVER THE INPUT: true; the input reads as it did. -/
def unionTwoSpec : ChangeSpec := { name := "unionTwo", fn := fun _ => fun
  | [d1, d2] => { results := [.lit (.bool true)], args := [d1, d2] }
  | _ => none }
def unionTwoRow : OpenClaim := { program := "ytmaoadlighjkpaa", sum := "bf82fff0fbe61835a96a8e5f7878f53bef6b33ba6c15d1918f12e5fb05b7d19e", func := "winnower/winnowerlaw02.UnionTwo", spec := "unionTwo", plainKeys := false, apart := false }
def UnionTwoSaid : Prop := unionTwoRow.holds Try.pinned (OpenSpec.ofChange unionTwoSpec)

/-- ITS FALSE NEIGHBOUR: 'it returns false'. Refute it at one input. -/
def unionTwoWrong : ChangeSpec := { name := "unionTwo", fn := fun _ => fun
  | [d1, d2] => { results := [.lit (.bool false)], args := [d1, d2] }
  | _ => none }
def UnionTwoWrongFalsely : Prop := unionTwoRow.holds Try.pinned (OpenSpec.ofChange unionTwoWrong)

/-- 'winnowerlaw02.UnionOrder': WHATEVER THE INPUT: true; the input reads as it did. -/
def unionOrderSpec : ChangeSpec := { name := "unionOrder", fn := fun _ => fun
  | [d1, d2] => { results := [.lit (.bool true)], args := [d1, d2] }
  | _ => none }
def unionOrderRow : OpenClaim := { program := "ytmaoadlighjkpaa", sum := "bf82fff0fbe61835a96a8e5f7878f53bef6b33ba6c15d1918f12e5fb05b7d19e", func := "winnower/winnowerlaw02.UnionOrder", spec := "unionOrder", plainKeys := false, apart := false }
def UnionOrderSaid : Prop := unionOrderRow.holds Try.pinned (OpenSpec.ofChange unionOrderSpec)

/-- ITS FALSE NEIGHBOUR: 'it returns false'. Refute it at one input. -/
def unionOrderWrong : ChangeSpec := { name := "unionOrder", fn := fun _ => fun
  | [d1, d2] => { results := [.lit (.bool false)], args := [d1, d2] }
  | _ => none }
def UnionOrderWrongFalsely : Prop := unionOrderRow.holds Try.pinned (OpenSpec.ofChange unionOrderWrong)

/-- 'winnowerlaw02.UnionAll': WHATEVER THE INPUT: true; the input reads as it did. -/
def unionAllSpec : ChangeSpec := { name := "unionAll", fn := fun _ => fun
  | [d] => { results := [.lit (.bool true)], args := [d] }
  | _ => none }
def unionAllRow : OpenClaim := { program := "ytmaoadlighjkpaa", sum := "bf82fff0fbe61835a96a8e5f7878f53bef6b33ba6c15d1918f12e5fb05b7d19e", func := "winnower/winnowerlaw02.UnionAll", spec := "unionAll", plainKeys := false, apart := false }
def UnionAllSaid : Prop := unionAllRow.holds Try.pinned (OpenSpec.ofChange unionAllSpec)

/-- ITS FALSE NEIGHBOUR: 'it returns false'. Refute it at one input. -/
def unionAllWrong : ChangeSpec := { name := "unionAll", fn := fun _ => fun
  | [d] => { results := [.lit (.bool false)], args := [d] }
  | _ => none }
def UnionAllWrongFalsely : Prop := unionAllRow.holds Try.pinned (OpenSpec.ofChange unionAllWrong)

/-- 'winnowerlaw16.CtxNumbers': WHATEVER THE INPUT: true; the input reads as it did. -/
def ctxNumbersSpec : ChangeSpec := { name := "ctxNumbers", fn := fun _ => fun
  | [d1, d2] => { results := [.lit (.bool true)], args := [d1, d2] }
  | _ => none }
def ctxNumbersRow : OpenClaim := { program := "ytmaoadlighjkpaa", sum := "bf82fff0fbe61835a96a8e5f7878f53bef6b33ba6c15d1918f12e5fb05b7d19e", func := "winnower/winnowerlaw16.CtxNumbers", spec := "ctxNumbers", plainKeys := false, apart := false }
def CtxNumbersSaid : Prop := ctxNumbersRow.holds Try.pinned (OpenSpec.ofChange ctxNumbersSpec)

/-- ITS FALSE NEIGHBOUR: 'it returns false'. Refute it at one input. -/
def ctxNumbersWrong : ChangeSpec := { name := "ctxNumbers", fn := fun _ => fun
  | [d1, d2] => { results := [.lit (.bool false)], args := [d1, d2] }
  | _ => none }
def CtxNumbersWrongFalsely : Prop := ctxNumbersRow.holds Try.pinned (OpenSpec.ofChange ctxNumbersWrong)

/-- 'winnowerlaw02.UnionJoins': WHATEVER THE INPUT: true; the input reads as it did. -/
def unionJoinsSpec : ChangeSpec := { name := "unionJoins", fn := fun _ => fun
  | [d1, d2, d3] => { results := [.lit (.bool true)], args := [d1, d2, d3] }
  | _ => none }
def unionJoinsRow : OpenClaim := { program := "ytmaoadlighjkpaa", sum := "bf82fff0fbe61835a96a8e5f7878f53bef6b33ba6c15d1918f12e5fb05b7d19e", func := "winnower/winnowerlaw02.UnionJoins", spec := "unionJoins", plainKeys := false, apart := false }
def UnionJoinsSaid : Prop := unionJoinsRow.holds Try.pinned (OpenSpec.ofChange unionJoinsSpec)

/-- ITS FALSE NEIGHBOUR: 'it returns false'. Refute it at one input. -/
def unionJoinsWrong : ChangeSpec := { name := "unionJoins", fn := fun _ => fun
  | [d1, d2, d3] => { results := [.lit (.bool false)], args := [d1, d2, d3] }
  | _ => none }
def UnionJoinsWrongFalsely : Prop := unionJoinsRow.holds Try.pinned (OpenSpec.ofChange unionJoinsWrong)

/-- 'winnowerlaw05.LexTokens': WHATEVER THE INPUT: true; the input reads as it did. -/
def lexTokensSpec : ChangeSpec := { name := "lexTokens", fn := fun _ => fun
  | [d] => { results := [.lit (.bool true)], args := [d] }
  | _ => none }
def lexTokensRow : OpenClaim := { program := "ytmaoadlighjkpaa", sum := "bf82fff0fbe61835a96a8e5f7878f53bef6b33ba6c15d1918f12e5fb05b7d19e", func := "winnower/winnowerlaw05.LexTokens", spec := "lexTokens", inPlace := ["internal/bytealg.IndexByteString"], unfollowed := true, recurses := true, plainKeys := false, apart := false }
def LexTokensSaid : Prop := lexTokensRow.holds Try.pinned (OpenSpec.ofChange lexTokensSpec)

/-- ITS FALSE NEIGHBOUR: 'it returns false'. Refute it at one input. -/
def lexTokensWrong : ChangeSpec := { name := "lexTokens", fn := fun _ => fun
  | [d] => { results := [.lit (.bool false)], args := [d] }
  | _ => none }
def LexTokensWrongFalsely : Prop := lexTokensRow.holds Try.pinned (OpenSpec.ofChange lexTokensWrong)

/-- 'winnowerlaw05.LexLong': WHATEVER THE INPUT: true; the input reads as it did. -/
def lexLongSpec : ChangeSpec := { name := "lexLong", fn := fun _ => fun
  | [d] => { results := [.lit (.bool true)], args := [d] }
  | _ => none }
def lexLongRow : OpenClaim := { program := "ytmaoadlighjkpaa", sum := "bf82fff0fbe61835a96a8e5f7878f53bef6b33ba6c15d1918f12e5fb05b7d19e", func := "winnower/winnowerlaw05.LexLong", spec := "lexLong", inPlace := ["internal/bytealg.IndexByteString"], unfollowed := true, recurses := true, plainKeys := false, apart := false }
def LexLongSaid : Prop := lexLongRow.holds Try.pinned (OpenSpec.ofChange lexLongSpec)

/-- ITS FALSE NEIGHBOUR: 'it returns false'. Refute it at one input. -/
def lexLongWrong : ChangeSpec := { name := "lexLong", fn := fun _ => fun
  | [d] => { results := [.lit (.bool false)], args := [d] }
  | _ => none }
def LexLongWrongFalsely : Prop := lexLongRow.holds Try.pinned (OpenSpec.ofChange lexLongWrong)

/-- 'winnowerlaw05.LexJoins': WHATEVER THE INPUT: true; the input reads as it did. -/
def lexJoinsSpec : ChangeSpec := { name := "lexJoins", fn := fun _ => fun
  | [d1, d2] => { results := [.lit (.bool true)], args := [d1, d2] }
  | _ => none }
def lexJoinsRow : OpenClaim := { program := "ytmaoadlighjkpaa", sum := "bf82fff0fbe61835a96a8e5f7878f53bef6b33ba6c15d1918f12e5fb05b7d19e", func := "winnower/winnowerlaw05.LexJoins", spec := "lexJoins", inPlace := ["internal/bytealg.IndexByteString"], unfollowed := true, recurses := true, plainKeys := false, apart := false }
def LexJoinsSaid : Prop := lexJoinsRow.holds Try.pinned (OpenSpec.ofChange lexJoinsSpec)

/-- ITS FALSE NEIGHBOUR: 'it returns false'. Refute it at one input. -/
def lexJoinsWrong : ChangeSpec := { name := "lexJoins", fn := fun _ => fun
  | [d1, d2] => { results := [.lit (.bool false)], args := [d1, d2] }
  | _ => none }
def LexJoinsWrongFalsely : Prop := lexJoinsRow.holds Try.pinned (OpenSpec.ofChange lexJoinsWrong)

/-- 'winnowerlaw05.LexPlaces': WHATEVER THE INPUT: true; the input reads as it did. -/
def lexPlacesSpec : ChangeSpec := { name := "lexPlaces", fn := fun _ => fun
  | [d] => { results := [.lit (.bool true)], args := [d] }
  | _ => none }
def lexPlacesRow : OpenClaim := { program := "ytmaoadlighjkpaa", sum := "bf82fff0fbe61835a96a8e5f7878f53bef6b33ba6c15d1918f12e5fb05b7d19e", func := "winnower/winnowerlaw05.LexPlaces", spec := "lexPlaces", inPlace := ["internal/bytealg.IndexByteString"], unfollowed := true, recurses := true, plainKeys := false, apart := false }
def LexPlacesSaid : Prop := lexPlacesRow.holds Try.pinned (OpenSpec.ofChange lexPlacesSpec)

/-- ITS FALSE NEIGHBOUR: 'it returns false'. Refute it at one input. -/
def lexPlacesWrong : ChangeSpec := { name := "lexPlaces", fn := fun _ => fun
  | [d] => { results := [.lit (.bool false)], args := [d] }
  | _ => none }
def LexPlacesWrongFalsely : Prop := lexPlacesRow.holds Try.pinned (OpenSpec.ofChange lexPlacesWrong)

/- THE SECOND FORM. 'bulk': how many values and letters a reading holds, each counted each time it is reached (what is shared counts as often as it is met; a slice's spare places count too). A statement '..UptoSaid' is the law's where the arguments, and the package variables that the reading takes, are together of bulk at most 1048576: NARROWER than '..Said'. Prove '..Said' where nothing that the law and all that it calls make is longer than what came in: it says more and counts as full. Else prove '..UptoSaid'. A law counts once. -/
mutual
def uptoBulk {H : Type} : DataW H → Nat
  | .lit (.string bytes) => bytes.length + 1
  | .lit _ => 1
  | .nil => 1
  | .ptr d => uptoBulk d + 1
  | .slice elems spare => uptoBulkAll elems + uptoBulkAll spare + 1
  | .agg parts => uptoBulkAll parts + 1
  | .iface _ d => uptoBulk d + 1
  | .map entries => uptoBulkEntries entries + 1
  | .held _ => 1
def uptoBulkAll {H : Type} : List (DataW H) → Nat
  | [] => 0
  | d :: r => uptoBulk d + uptoBulkAll r
def uptoBulkEntries {H : Type} : List (Lit × DataW H) → Nat
  | [] => 0
  | x :: r => uptoBulkEntry x + uptoBulkEntries r
def uptoBulkEntry {H : Type} : Lit × DataW H → Nat
  | (.string bytes, d) => bytes.length + uptoBulk d + 1
  | (_, d) => uptoBulk d + 1
 end
def uptoSmall : (H : Type) → List (DataW H) → Bool := fun _ ds => decide (uptoBulkAll ds ≤ 1048576)
def OpenSpec.upto (s : _root_.Go.ChangeSpec) : _root_.Go.OpenSpec := { _root_.Go.OpenSpec.ofChange s with cond := some uptoSmall }

/-- 'winnowerlaw16.CtxDeep', WHERE WHAT IT READS IS OF BULK AT MOST 1048576: true; the input reads as it did. -/
def ctxDeepUptoRow : OpenClaim := { program := "ytmaoadlighjkpaa", sum := "bf82fff0fbe61835a96a8e5f7878f53bef6b33ba6c15d1918f12e5fb05b7d19e", func := "winnower/winnowerlaw16.CtxDeep", spec := "ctxDeep", plainKeys := false, apart := false, narrowed := true }
def CtxDeepUptoSaid : Prop := ctxDeepUptoRow.holds Try.pinned (OpenSpec.upto ctxDeepSpec)

/-- 'winnowerlaw16.CtxEnds', WHERE WHAT IT READS IS OF BULK AT MOST 1048576: true; the input reads as it did. -/
def ctxEndsUptoRow : OpenClaim := { program := "ytmaoadlighjkpaa", sum := "bf82fff0fbe61835a96a8e5f7878f53bef6b33ba6c15d1918f12e5fb05b7d19e", func := "winnower/winnowerlaw16.CtxEnds", spec := "ctxEnds", plainKeys := false, apart := false, narrowed := true }
def CtxEndsUptoSaid : Prop := ctxEndsUptoRow.holds Try.pinned (OpenSpec.upto ctxEndsSpec)

/-- 'winnowerlaw04.InternPads', WHERE WHAT IT READS IS OF BULK AT MOST 1048576: true; the input reads as it did. -/
def internPadsUptoRow : OpenClaim := { program := "ytmaoadlighjkpaa", sum := "bf82fff0fbe61835a96a8e5f7878f53bef6b33ba6c15d1918f12e5fb05b7d19e", func := "winnower/winnowerlaw04.InternPads", spec := "internPads", plainKeys := false, apart := false, narrowed := true }
def InternPadsUptoSaid : Prop := internPadsUptoRow.holds Try.pinned (OpenSpec.upto internPadsSpec)

/-- 'winnowerlaw03.QueueOrder', WHERE WHAT IT READS IS OF BULK AT MOST 1048576: true; the input reads as it did. -/
def queueOrderUptoRow : OpenClaim := { program := "ytmaoadlighjkpaa", sum := "bf82fff0fbe61835a96a8e5f7878f53bef6b33ba6c15d1918f12e5fb05b7d19e", func := "winnower/winnowerlaw03.QueueOrder", spec := "queueOrder", plainKeys := false, apart := false, narrowed := true }
def QueueOrderUptoSaid : Prop := queueOrderUptoRow.holds Try.pinned (OpenSpec.upto queueOrderSpec)

/-- 'winnowerlaw03.QueueActs', WHERE WHAT IT READS IS OF BULK AT MOST 1048576: true; the input reads as it did. -/
def queueActsUptoRow : OpenClaim := { program := "ytmaoadlighjkpaa", sum := "bf82fff0fbe61835a96a8e5f7878f53bef6b33ba6c15d1918f12e5fb05b7d19e", func := "winnower/winnowerlaw03.QueueActs", spec := "queueActs", plainKeys := false, apart := false, narrowed := true }
def QueueActsUptoSaid : Prop := queueActsUptoRow.holds Try.pinned (OpenSpec.upto queueActsSpec)

/-- 'winnowerlaw03.QueueRound', WHERE WHAT IT READS IS OF BULK AT MOST 1048576: true; the input reads as it did. -/
def queueRoundUptoRow : OpenClaim := { program := "ytmaoadlighjkpaa", sum := "bf82fff0fbe61835a96a8e5f7878f53bef6b33ba6c15d1918f12e5fb05b7d19e", func := "winnower/winnowerlaw03.QueueRound", spec := "queueRound", plainKeys := false, apart := false, narrowed := true }
def QueueRoundUptoSaid : Prop := queueRoundUptoRow.holds Try.pinned (OpenSpec.upto queueRoundSpec)

/-- 'winnowerlaw03.QueueFull', WHERE WHAT IT READS IS OF BULK AT MOST 1048576: true; the input reads as it did. -/
def queueFullUptoRow : OpenClaim := { program := "ytmaoadlighjkpaa", sum := "bf82fff0fbe61835a96a8e5f7878f53bef6b33ba6c15d1918f12e5fb05b7d19e", func := "winnower/winnowerlaw03.QueueFull", spec := "queueFull", plainKeys := false, apart := false, narrowed := true }
def QueueFullUptoSaid : Prop := queueFullUptoRow.holds Try.pinned (OpenSpec.upto queueFullSpec)

/-- 'winnowerlaw04.InternIds', WHERE WHAT IT READS IS OF BULK AT MOST 1048576: true; the input reads as it did. -/
def internIdsUptoRow : OpenClaim := { program := "ytmaoadlighjkpaa", sum := "bf82fff0fbe61835a96a8e5f7878f53bef6b33ba6c15d1918f12e5fb05b7d19e", func := "winnower/winnowerlaw04.InternIds", spec := "internIds", plainKeys := false, apart := false, narrowed := true }
def InternIdsUptoSaid : Prop := internIdsUptoRow.holds Try.pinned (OpenSpec.upto internIdsSpec)

/-- 'winnowerlaw04.InternTexts', WHERE WHAT IT READS IS OF BULK AT MOST 1048576: true; the input reads as it did. -/
def internTextsUptoRow : OpenClaim := { program := "ytmaoadlighjkpaa", sum := "bf82fff0fbe61835a96a8e5f7878f53bef6b33ba6c15d1918f12e5fb05b7d19e", func := "winnower/winnowerlaw04.InternTexts", spec := "internTexts", plainKeys := false, apart := false, narrowed := true }
def InternTextsUptoSaid : Prop := internTextsUptoRow.holds Try.pinned (OpenSpec.upto internTextsSpec)

/-- 'winnowerlaw02.UnionTwo', WHERE WHAT IT READS IS OF BULK AT MOST 1048576: true; the input reads as it did. -/
def unionTwoUptoRow : OpenClaim := { program := "ytmaoadlighjkpaa", sum := "bf82fff0fbe61835a96a8e5f7878f53bef6b33ba6c15d1918f12e5fb05b7d19e", func := "winnower/winnowerlaw02.UnionTwo", spec := "unionTwo", plainKeys := false, apart := false, narrowed := true }
def UnionTwoUptoSaid : Prop := unionTwoUptoRow.holds Try.pinned (OpenSpec.upto unionTwoSpec)

/-- 'winnowerlaw02.UnionOrder', WHERE WHAT IT READS IS OF BULK AT MOST 1048576: true; the input reads as it did. -/
def unionOrderUptoRow : OpenClaim := { program := "ytmaoadlighjkpaa", sum := "bf82fff0fbe61835a96a8e5f7878f53bef6b33ba6c15d1918f12e5fb05b7d19e", func := "winnower/winnowerlaw02.UnionOrder", spec := "unionOrder", plainKeys := false, apart := false, narrowed := true }
def UnionOrderUptoSaid : Prop := unionOrderUptoRow.holds Try.pinned (OpenSpec.upto unionOrderSpec)

/-- 'winnowerlaw02.UnionAll', WHERE WHAT IT READS IS OF BULK AT MOST 1048576: true; the input reads as it did. -/
def unionAllUptoRow : OpenClaim := { program := "ytmaoadlighjkpaa", sum := "bf82fff0fbe61835a96a8e5f7878f53bef6b33ba6c15d1918f12e5fb05b7d19e", func := "winnower/winnowerlaw02.UnionAll", spec := "unionAll", plainKeys := false, apart := false, narrowed := true }
def UnionAllUptoSaid : Prop := unionAllUptoRow.holds Try.pinned (OpenSpec.upto unionAllSpec)

/-- 'winnowerlaw16.CtxNumbers', WHERE WHAT IT READS IS OF BULK AT MOST 1048576: true; the input reads as it did. -/
def ctxNumbersUptoRow : OpenClaim := { program := "ytmaoadlighjkpaa", sum := "bf82fff0fbe61835a96a8e5f7878f53bef6b33ba6c15d1918f12e5fb05b7d19e", func := "winnower/winnowerlaw16.CtxNumbers", spec := "ctxNumbers", plainKeys := false, apart := false, narrowed := true }
def CtxNumbersUptoSaid : Prop := ctxNumbersUptoRow.holds Try.pinned (OpenSpec.upto ctxNumbersSpec)

/-- 'winnowerlaw02.UnionJoins', WHERE WHAT IT READS IS OF BULK AT MOST 1048576: true; the input reads as it did. -/
def unionJoinsUptoRow : OpenClaim := { program := "ytmaoadlighjkpaa", sum := "bf82fff0fbe61835a96a8e5f7878f53bef6b33ba6c15d1918f12e5fb05b7d19e", func := "winnower/winnowerlaw02.UnionJoins", spec := "unionJoins", plainKeys := false, apart := false, narrowed := true }
def UnionJoinsUptoSaid : Prop := unionJoinsUptoRow.holds Try.pinned (OpenSpec.upto unionJoinsSpec)

/-- 'winnowerlaw05.LexTokens', WHERE WHAT IT READS IS OF BULK AT MOST 1048576: true; the input reads as it did. -/
def lexTokensUptoRow : OpenClaim := { program := "ytmaoadlighjkpaa", sum := "bf82fff0fbe61835a96a8e5f7878f53bef6b33ba6c15d1918f12e5fb05b7d19e", func := "winnower/winnowerlaw05.LexTokens", spec := "lexTokens", inPlace := ["internal/bytealg.IndexByteString"], unfollowed := true, recurses := true, plainKeys := false, apart := false, narrowed := true }
def LexTokensUptoSaid : Prop := lexTokensUptoRow.holds Try.pinned (OpenSpec.upto lexTokensSpec)

/-- 'winnowerlaw05.LexLong', WHERE WHAT IT READS IS OF BULK AT MOST 1048576: true; the input reads as it did. -/
def lexLongUptoRow : OpenClaim := { program := "ytmaoadlighjkpaa", sum := "bf82fff0fbe61835a96a8e5f7878f53bef6b33ba6c15d1918f12e5fb05b7d19e", func := "winnower/winnowerlaw05.LexLong", spec := "lexLong", inPlace := ["internal/bytealg.IndexByteString"], unfollowed := true, recurses := true, plainKeys := false, apart := false, narrowed := true }
def LexLongUptoSaid : Prop := lexLongUptoRow.holds Try.pinned (OpenSpec.upto lexLongSpec)

/-- 'winnowerlaw05.LexJoins', WHERE WHAT IT READS IS OF BULK AT MOST 1048576: true; the input reads as it did. -/
def lexJoinsUptoRow : OpenClaim := { program := "ytmaoadlighjkpaa", sum := "bf82fff0fbe61835a96a8e5f7878f53bef6b33ba6c15d1918f12e5fb05b7d19e", func := "winnower/winnowerlaw05.LexJoins", spec := "lexJoins", inPlace := ["internal/bytealg.IndexByteString"], unfollowed := true, recurses := true, plainKeys := false, apart := false, narrowed := true }
def LexJoinsUptoSaid : Prop := lexJoinsUptoRow.holds Try.pinned (OpenSpec.upto lexJoinsSpec)

/-- 'winnowerlaw05.LexPlaces', WHERE WHAT IT READS IS OF BULK AT MOST 1048576: true; the input reads as it did. -/
def lexPlacesUptoRow : OpenClaim := { program := "ytmaoadlighjkpaa", sum := "bf82fff0fbe61835a96a8e5f7878f53bef6b33ba6c15d1918f12e5fb05b7d19e", func := "winnower/winnowerlaw05.LexPlaces", spec := "lexPlaces", inPlace := ["internal/bytealg.IndexByteString"], unfollowed := true, recurses := true, plainKeys := false, apart := false, narrowed := true }
def LexPlacesUptoSaid : Prop := lexPlacesUptoRow.holds Try.pinned (OpenSpec.upto lexPlacesSpec)

end Rows
end Go.Proofs.Ytmaoadlighjkpaa
