/- The queue beside nothing else: the contracts as the laws use them; the example of the layer. -/
import Derived.Test.YtmaoadlighjkpaaQd
namespace Go.Proofs.Ytmaoadlighjkpaa.Qu
open Go.RowKit Go.Proofs.YtmaoadlighjkpaaW.PrintWords Go.Proofs.YtmaoadlighjkpaaW.PrintLast Go.Proofs.YtmaoadlighjkpaaW.PrintMore
open Go.Proofs.Ytmaoadlighjkpaa.Base Go.Proofs.Ytmaoadlighjkpaa.Map Go.Proofs.Ytmaoadlighjkpaa.Ca Go.Maps
set_option linter.unusedVariables false

/-- what the call made is apart from blocks that are elder -/
theorem st_own {w : World} {base : Nat} {u : Value} {ns : List Int} {F : Nat → Prop} (h : OwI w base u ns) (hF : ∀ k, F k → k < base) : ∀ W, Chg F w W → RdV W u ns := fun W hC =>
  OwI.toV (base := base) ⟨Kd.R_mono (Kd.R_step (Kd.R_bound h.out) (fun k hk hlt => hC.block k hlt (fun hf => by have := hF k hf; have := hk.2.1; omega))) (fun _ _ => trivial)⟩
/-- what came in is apart from what the call made -/
theorem st_in {w0 w : World} {u : Value} {ns : List Int} {F : Nat → Prop} (h : RdV w0 u ns) (hb : Below w0.heap.size w0 w) (hF : ∀ k, F k → w0.heap.size ≤ k) : ∀ W, Chg F w W → RdV W u ns := fun W hC =>
  h.below (hb.trans (hC.below hb.size hF))

/-- A queue that the call has made since w0, and nothing else is looked at. -/
structure QSt (w0 w : World) (g : Nat) (l : List Int) : Prop where mk :: (out : ∃ F, QAt w F g l ∧ (∀ k, F k → w0.heap.size ≤ k ∧ k < w.heap.size) ∧ Below w0.heap.size w0 w)
section
variable {w0 w w1 : World} {g : Nat} {l : List Int}
theorem QSt.bel (h : QSt w0 w g l) : Below w0.heap.size w0 w := by obtain ⟨F, _, _, h⟩ := h; exact h
theorem QSt.len_le (h : QSt w0 w g l) : l.length ≤ 1048576 := by obtain ⟨F, h, _⟩ := h; exact h.len_le
theorem QSt.below (h : QSt w0 w g l) (hb : Below w.heap.size w w1) : QSt w0 w1 g l := by
  obtain ⟨F, h1, h2, h3⟩ := h
  exact ⟨F, h1.below hb, fun k hk => ⟨(h2 k hk).1, Nat.lt_of_lt_of_le (h2 k hk).2 hb.size⟩, below_then h3 h3.size hb⟩
@[simp] theorem QSt.alloc (h : QSt w0 w g l) (o : Obj) : QSt w0 (w.alloc o) g l := h.below (below_alloc (Below.refl _ _) o)
theorem QSt.ext_ {F : Nat → Prop} {l' : List Int} (h1 : QAt w1 (ext F w w1) g l') (hC : Chg F w w1) (h2 : ∀ k, F k → w0.heap.size ≤ k ∧ k < w.heap.size) (h3 : Below w0.heap.size w0 w) : QSt w0 w1 g l' :=
  ⟨_, h1, fun k hk => hk.elim (fun h => ⟨(h2 k h).1, Nat.lt_of_lt_of_le (h2 k h).2 hC.size⟩) (fun h => ⟨Nat.le_trans h3.size h.1, h.2⟩), h3.trans (hC.below h3.size (fun k hk => (h2 k hk).1))⟩
end

theorem new_st (w0 w : World) (hb : Below w0.heap.size w0 w) : Calls Try.prog 30 #[] w fun e w' => ∃ g, e = .returned (.pointer (some ⟨g, 0, none⟩)) ∧ QSt w0 w' g [] :=
  (new_any w).mono fun e w' ⟨h1, h2, h3⟩ => ⟨_, h1, ⟨_, h2, fun k hk => ⟨Nat.le_trans hb.size hk.1, hk.2⟩, below_then hb hb.size h3⟩⟩
theorem len_st (w0 w : World) (g : Nat) (l : List Int) (h : QSt w0 w g l) : Calls Try.prog 33 #[.pointer (some ⟨g, 0, none⟩)] w fun e w' => e = .returned (.int .i64 (l.length : Int)) ∧ QSt w0 w' g l := by
  have h' := h
  obtain ⟨F, ⟨FL, mb, f, hL, _⟩, _⟩ := h
  exact (len_any g FL _ l w hL.toW).mono fun e w' ⟨h1, h2⟩ => ⟨h1, h'.below h2⟩
theorem has_st (w0 w : World) (g : Nat) (l : List Int) (x : Int) (h : QSt w0 w g l) (hx : (Lit.int .i64 x).wf = true) : Calls Try.prog 36 #[.pointer (some ⟨g, 0, none⟩), .int .i64 x] w fun e w' => e = .returned (.bool (decide (x ∈ l))) ∧ w = w' := by
  obtain ⟨F, h1, _⟩ := h
  exact has_any g F l x w h1 hx
theorem next_none_st (w0 w : World) (g : Nat) (h : QSt w0 w g []) : Calls Try.prog 32 #[.pointer (some ⟨g, 0, none⟩)] w fun e w' => e = .returned (.tuple #[.int .i64 0, .bool false]) ∧ QSt w0 w' g [] := by
  have h' := h
  obtain ⟨F, h1, _⟩ := h
  exact (next_none g F w h1).mono fun e w' ⟨h1, h2⟩ => ⟨h1, h'.below h2⟩
theorem next_some_st (w0 w : World) (g : Nat) (x : Int) (l : List Int) (h : QSt w0 w g (x :: l)) : Calls Try.prog 32 #[.pointer (some ⟨g, 0, none⟩)] w fun e w' => e = .returned (.tuple #[.int .i64 x, .bool true]) ∧ QSt w0 w' g l := by
  obtain ⟨F, h1, h2, h3⟩ := h
  exact (next_some g F x l w h1).mono fun e w' ⟨r1, r2, r3⟩ => ⟨r1, QSt.ext_ r2 r3 h2 h3⟩
theorem put_lit (w0 w : World) (g : Nat) (l xs : List Int) (h : QSt w0 w g l) (hw : ∀ x ∈ xs, (Lit.int .i64 x).wf = true) (hl : xs.length ≤ 1000) :
    Calls Try.prog 31 #[.pointer (some ⟨g, 0, none⟩), .slice (some ⟨w.heap.size, 0, none⟩) xs.length xs.length] (w.alloc (.cells (nums .i64 xs).toArray 3)) fun e w' => e = .returned (.int .i64 ((putL l xs).length - l.length : Int)) ∧ QSt w0 w' g (putL l xs) := by
  obtain ⟨F, h1, h2, h3⟩ := h
  have hb : Below w.heap.size w (w.alloc (.cells (nums .i64 xs).toArray 3)) := below_alloc (Below.refl _ _) _
  refine (put_any g F l xs _ _ (h1.below hb) (st_own (OwI.lit w xs (by omega)) (fun k hk => (h2 k hk).2)) hw (by omega)).mono fun e w' ⟨r1, r2, r3⟩ => ⟨r1, ?_⟩
  exact QSt.ext_ r2 r3 (fun k hk => ⟨(h2 k hk).1, Nat.lt_of_lt_of_le (h2 k hk).2 hb.size⟩) (below_then h3 h3.size hb)
theorem put_one (w0 w : World) (g : Nat) (l : List Int) (x : Int) (h : QSt w0 w g l) (hw : (Lit.int .i64 x).wf = true) :
    Calls Try.prog 31 #[.pointer (some ⟨g, 0, none⟩), .slice (some ⟨w.heap.size, 0, none⟩) 1 1] (w.alloc (.cells #[.int .i64 x] 3)) fun e w' => e = .returned (.int .i64 ((put1 l x).length - l.length : Int)) ∧ QSt w0 w' g (put1 l x) :=
  put_lit w0 w g l [x] h (by simpa using hw) (by simp)
theorem put_two (w0 w : World) (g : Nat) (l : List Int) (x y : Int) (h : QSt w0 w g l) (hw : (Lit.int .i64 x).wf = true) (hy : (Lit.int .i64 y).wf = true) :
    Calls Try.prog 31 #[.pointer (some ⟨g, 0, none⟩), .slice (some ⟨w.heap.size, 0, none⟩) 2 2] (w.alloc (.cells #[.int .i64 x, .int .i64 y] 3)) fun e w' => e = .returned (.int .i64 ((put1 (put1 l x) y).length - l.length : Int)) ∧ QSt w0 w' g (put1 (put1 l x) y) :=
  put_lit w0 w g l [x, y] h (by simpa using ⟨hw, hy⟩) (by simp)
theorem put_three (w0 w : World) (g : Nat) (l : List Int) (x y z : Int) (h : QSt w0 w g l) (hw : (Lit.int .i64 x).wf = true) (hy : (Lit.int .i64 y).wf = true) (hz : (Lit.int .i64 z).wf = true) :
    Calls Try.prog 31 #[.pointer (some ⟨g, 0, none⟩), .slice (some ⟨w.heap.size, 0, none⟩) 3 3] (w.alloc (.cells #[.int .i64 x, .int .i64 y, .int .i64 z] 3)) fun e w' => e = .returned (.int .i64 ((put1 (put1 (put1 l x) y) z).length - l.length : Int)) ∧ QSt w0 w' g (put1 (put1 (put1 l x) y) z) :=
  put_lit w0 w g l [x, y, z] h (by simpa using ⟨hw, hy, hz⟩) (by simp)

theorem put1_new (l : List Int) (x : Int) (h : 0 ≤ x ∧ x < 1048576) (hn : x ∉ l) : put1 l x = l ++ [x] := by unfold put1; rw [if_pos ⟨h.1, h.2, hn⟩]
theorem put1_old (l : List Int) (x : Int) (hn : x ∈ l) : put1 l x = l := by unfold put1; rw [if_neg (fun h => h.2.2 hn)]

set_option maxHeartbeats 1000000 in
set_option maxRecDepth 100000 in
theorem awake_any (w : World) : Calls Try.prog 29 #[] w fun e w' => e = .returned (.bool true) ∧ Below w.heap.size w w' := by
  have p1 : put1 (put1 (put1 [] 3) 1) 3 = [3, 1] := by decide
  have p2 : put1 [1] 3 = [1, 3] := by decide
  have hw3 : (Lit.int .i64 3).wf = true := by decide
  have hw1 : (Lit.int .i64 1).wf = true := by decide
  go_enter Try.func29, Try.ntmps29
  go_wp2_with fail
  refine (new_st w w (Below.refl _ _)).mono ?_
  rintro e w1 ⟨g, rfl, h1⟩
  go_wp2_with fail
  refine (put_three w w1 g [] 3 1 3 h1 hw3 hw1 hw3).mono ?_
  rintro e w2 ⟨rfl, h2⟩
  rw [p1] at h2 ⊢
  clear h1
  go_wp2_with fail
  refine (next_some_st w w2 g 3 [1] h2).mono ?_
  rintro e w3 ⟨rfl, h3⟩
  clear h2
  go_wp2_with fail
  refine (put_one w w3 g [1] 3 h3 hw3).mono ?_
  rintro e w4 ⟨rfl, h4⟩
  rw [p2] at h4 ⊢
  clear h3
  go_wp2_with fail
  refine (next_some_st w w4 g 1 [3] h4).mono ?_
  rintro e w5 ⟨rfl, h5⟩
  clear h4
  go_wp2_with fail
  refine (next_some_st w w5 g 3 [] h5).mono ?_
  rintro e w6 ⟨rfl, h6⟩
  clear h5
  go_wp2
  go_ret
  exact ⟨rfl, h6.bel⟩
end Go.Proofs.Ytmaoadlighjkpaa.Qu
