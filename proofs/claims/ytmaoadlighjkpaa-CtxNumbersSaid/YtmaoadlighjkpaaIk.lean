/- intern.Table: Find. -/
import Derived.Test.YtmaoadlighjkpaaIi
namespace Go.Proofs.Ytmaoadlighjkpaa.In
open Go.RowKit Go.Proofs.YtmaoadlighjkpaaW.PrintWords Go.Proofs.YtmaoadlighjkpaaW.PrintLast Go.Proofs.YtmaoadlighjkpaaW.PrintMore
open Go.Proofs.Ytmaoadlighjkpaa.Base Go.Proofs.Ytmaoadlighjkpaa.Map Go.Proofs.Ytmaoadlighjkpaa.Ca Go.Proofs.Ytmaoadlighjkpaa.Qu Go.Maps
set_option linter.unusedVariables false

/-- what Find says -/
def findOf (tl : List (List Int)) (ns : List Int) : Int × Bool := if ns.length ≤ 8 ∧ ns ∈ tl then ((place tl ns : Int), true) else (0, false)

set_option maxHeartbeats 1000000 in
set_option maxRecDepth 100000 in
theorem find_long (p : Nat) (F : Nat → Prop) (sl : List ByteArray) (tl : List (List Int)) (u : Value) (ns : List Int) (w : World) (h : TabAt w F p sl tl) (hu : RdV w u ns) (h8 : 8 < ns.length) :
    Calls Try.prog 40 #[.pointer (some ⟨p, 0, none⟩), u] w fun e w' => e = .returned (.tuple #[.int .i64 0, .bool false]) ∧ Below w.heap.size w w' := by
  have g1 : decide (ns.length ≤ 8) = false := decide_eq_false (by omega)
  obtain ⟨x0, x1, x2, x3, x4, x5, x6, x7, x8, hx⟩ := tup_cells ns
  have Hx := Aside0.mk hx
  clear hx
  go_enter Try.func40, Try.ntmps40
  go_wp2_with fail
  refine (key_any u ns w hu).mono ?_
  rintro e w1 ⟨rfl, h1⟩
  rw [g1]
  unfold tupV
  rw [Hx.out]
  go_wp2
  go_ret2
  exact ⟨rfl, bel_trans h1 (below_alloc (Below.refl _ _) _)⟩

set_option maxHeartbeats 1000000 in
set_option maxRecDepth 100000 in
theorem find_short (p : Nat) (F : Nat → Prop) (sl : List ByteArray) (tl : List (List Int)) (u : Value) (ns : List Int) (w : World) (h : TabAt w F p sl tl) (hu : RdV w u ns) (h8 : tOk ns) :
    Calls Try.prog 40 #[.pointer (some ⟨p, 0, none⟩), u] w fun e w' => e = .returned (.tuple #[.int .i64 (findOf tl ns).1, .bool (findOf tl ns).2]) ∧ Below w.heap.size w w' := by
  have g1 : decide (ns.length ≤ 8) = true := decide_eq_true h8.1
  obtain ⟨q, hq⟩ : ∃ q, findOf tl ns = q := ⟨_, rfl⟩
  rw [hq]
  have Hq := Aside0.mk hq
  clear hq
  obtain ⟨x0, x1, x2, x3, x4, x5, x6, x7, x8, hx⟩ := tup_cells ns
  have Hx := Aside0.mk hx
  have hkey := tupK_key h8
  unfold tupV at hkey
  rw [hx] at hkey
  have Hkey := Aside0.mk hkey
  clear hx hkey
  go_enter Try.func40, Try.ntmps40
  go_wp2_with fail
  refine (key_any u ns w hu).mono ?_
  rintro e w1 ⟨rfl, h1⟩
  rw [g1]
  unfold tupV
  rw [Hx.out]
  have ht1 := h.below (below_then h1 h1.size (below_alloc (Below.refl w1.heap.size w1) (.cells #[.int .i64 x0, .int .i64 x1, .int .i64 x2, .int .i64 x3, .int .i64 x4, .int .i64 x5, .int .i64 x6, .int .i64 x7, .int .i64 x8] 122)))
  obtain ⟨vt, vs, mw, mi, fw, fi, hb, _, _, _, hM, _, _, hD⟩ := ht1
  have c2 := blk_cell hb 2
  have hf := hD ns h8
  have hr : (fi (tupK ns)).getD (.int .i64 0) = .int .i64 q.1 := by
    rw [hf, ← Hq.out]; unfold findOf
    by_cases hm : ns ∈ tl
    · rw [if_pos hm, if_pos ⟨h8.1, hm⟩]; rfl
    · rw [if_neg hm, if_neg (fun h => hm h.2)]; rfl
  have ho : (fi (tupK ns)).isSome = q.2 := by
    rw [hf, ← Hq.out]; unfold findOf
    by_cases hm : ns ∈ tl
    · rw [if_pos hm, if_pos ⟨h8.1, hm⟩]; rfl
    · rw [if_neg hm, if_neg (fun h => hm h.2)]; rfl
  have hrun : ∀ n, (Instr.lookup 67 (.map (some mi)) (.agg #[.int .i64 x0, .int .i64 x1, .int .i64 x2, .int .i64 x3, .int .i64 x4, .int .i64 x5, .int .i64 x6, .int .i64 x7, .int .i64 x8]) true).run Try.prog ((w1.alloc (.cells #[.int .i64 x0, .int .i64 x1, .int .i64 x2, .int .i64 x3, .int .i64 x4, .int .i64 x5, .int .i64 x6, .int .i64 x7, .int .i64 x8] 122)).drewN n) = .ok (.tuple #[.int .i64 q.1, .bool q.2]) ((w1.alloc (.cells #[.int .i64 x0, .int .i64 x1, .int .i64 x2, .int .i64 x3, .int .i64 x4, .int .i64 x5, .int .i64 x6, .int .i64 x7, .int .i64 x8] 122)).drewN n) := fun n => by
    have := (hM.below (pw_below_drewN (Below.refl _ _) n)).look_ok law122 Try.underlying67 (zero3 _) Hkey.out
    rw [hr, ho] at this
    exact this
  clear hr ho hf hD
  go_wp2_with fail
  go_quiet (fail)
  go_wp2
  go_ret2
  exact ⟨rfl, bel_trans h1 (pw_below_drewN (below_alloc (Below.refl _ _) _) _)⟩

theorem find_any (p : Nat) (F : Nat → Prop) (sl : List ByteArray) (tl : List (List Int)) (u : Value) (ns : List Int) (w : World) (h : TabAt w F p sl tl) (hu : RdV w u ns) (hw : ∀ x ∈ ns, (Lit.int .i64 x).wf = true) :
    Calls Try.prog 40 #[.pointer (some ⟨p, 0, none⟩), u] w fun e w' => e = .returned (.tuple #[.int .i64 (findOf tl ns).1, .bool (findOf tl ns).2]) ∧ Below w.heap.size w w' := by
  by_cases h8 : 8 < ns.length
  · have : findOf tl ns = (0, false) := by unfold findOf; rw [if_neg (fun h => by omega)]
    rw [this]
    exact find_long p F sl tl u ns w h hu h8
  · exact find_short p F sl tl u ns w h hu ⟨by omega, hw⟩
end Go.Proofs.Ytmaoadlighjkpaa.In
