/- lex: the octets' kinds, strings.IndexByte, strings.HasPrefix, the closures. -/
import Derived.Test.YtkbbliicijnpjaaDoorBase
import Derived.Test.YtkbbliicijnpjaaDoorLz
import Derived.Lib.Bytealg
import Derived.Shelf.Strings.Search1
namespace Go.Proofs.YtkbbliicijnpjaaDoor.Lx
open Go.RowKit Go.Proofs.YtkbbliicijnpjaaDoorW.PrintWords Go.Proofs.YtkbbliicijnpjaaDoorW.PrintLast Go.Proofs.YtkbbliicijnpjaaDoorW.PrintMore
open Go.Proofs.YtkbbliicijnpjaaDoor.Base Go.Proofs.YtkbbliicijnpjaaDoor.PLexTokens Go.Proofs.YtkbbliicijnpjaaDoor.PLexNames
set_option linter.unusedVariables false

/-- where an octet stands in a text -/
def idxB (s : ByteArray) (c : Int) : Int := Lib.indexByte s.data.toList c.toNat.toUInt8

set_option maxHeartbeats 1000000 in
set_option maxRecDepth 100000 in
theorem ib95_any (s : ByteArray) (c : Int) (w : World) :
    Calls Tryd.prog 77 #[.string s, .int .u8 c] w fun e w' => e = .returned (.int .i64 (idxB s c)) ∧ w' = w := by
  go_enter Tryd.func77, Tryd.ntmps77
  go_wp2
  rw [run_callFunc_extern Tryd.func83 (by kernel_rfl) (by kernel_rfl) (by kernel_rfl) (e := Extern.BytealgIndexByte.indexByte) (by kernel_rfl), Lib.run_indexByteString]
  simp only [Result.andThen]
  rw [Oper.upon_value]
  go_wp2
  go_ret
  exact ⟨rfl, rfl⟩

set_option maxHeartbeats 1000000 in
set_option maxRecDepth 100000 in
theorem ib_any (s : ByteArray) (c : Int) (w : World) :
    Calls Tryd.prog 63 #[.string s, .int .u8 c] w fun e w' => e = .returned (.int .i64 (idxB s c)) ∧ w' = w := by
  go_enter Tryd.func63, Tryd.ntmps63
  go_wp2_with (go_at_call 77; (with_reducible refine (ib95_any s c _).mono ?_); rintro e w1 ⟨rfl, rfl⟩)
  go_ret
  exact ⟨rfl, rfl⟩

/-- which begins a word -/
def letB (c : Int) : Bool := (decide (97 ≤ Go.bits .or .u8 c 32) && decide (Go.bits .or .u8 c 32 ≤ 122)) || c == 95
def digB (c : Int) : Bool := decide (48 ≤ c) && decide (c ≤ 57)

theorem let_any (c : Int) (w : World) : Calls Tryd.prog 39 #[.int .u8 c] w fun e w' => e = .returned (.bool (letB c)) ∧ Below w.heap.size w w' := by
  refine (lex_letter.calls c (letB c) w ?_).mono fun e w' h => ⟨h.1, h.2.below⟩
  unfold lex_letter.f letB
  split
  · split
    · simp_all
    · simp_all
      intros
      omega
  · simp_all
    intros
    omega
theorem dig_any (c : Int) (w : World) : Calls Tryd.prog 40 #[.int .u8 c] w fun e w' => e = .returned (.bool (digB c)) ∧ Below w.heap.size w w' := by
  refine (lex_digit.calls c (digB c) w ?_).mono fun e w' h => ⟨h.1, h.2.below⟩
  unfold lex_digit.f digB
  split
  · simp_all
  · simp_all
    intros
    omega
set_option maxHeartbeats 1000000 in
set_option maxRecDepth 100000 in
theorem nol_any (c : Int) (w : World) : Calls Tryd.prog 66 #[.int .u8 c] w fun e w' => e = .returned (.bool (c != 10)) ∧ Below w.heap.size w w' := by
  go_enter Tryd.func66, Tryd.ntmps66
  go_wp2
  go_ret
  exact ⟨rfl, Below.refl _ _⟩
set_option maxHeartbeats 1000000 in
set_option maxRecDepth 100000 in
theorem ld_any (c : Int) (w : World) : Calls Tryd.prog 78 #[.int .u8 c] w fun e w' => e = .returned (.bool (letB c || digB c)) ∧ Below w.heap.size w w' := by
  by_cases h : letB c = true
  · rw [h, Bool.true_or]
    go_enter Tryd.func78, Tryd.ntmps78
    go_wp2_with (go_at_call 39; (with_reducible refine (let_any c _).mono ?_); rintro e w1 ⟨rfl, hB⟩; rw [h])
    go_ret
    exact ⟨rfl, hB⟩
  · have h : letB c = false := by simpa using h
    rw [h, Bool.false_or]
    go_enter Tryd.func78, Tryd.ntmps78
    go_wp2_with (first | (go_at_call 39; (with_reducible refine (let_any c _).mono ?_); rintro e w1 ⟨rfl, hB⟩; rw [h]) | (go_at_call 40; (with_reducible refine (dig_any c _).mono ?_); rintro e w2 ⟨rfl, hB2⟩))
    go_ret
    exact ⟨rfl, bel_trans hB hB2⟩
end Go.Proofs.YtkbbliicijnpjaaDoor.Lx
