/- A union beside nothing else, as the laws use it; the example of the layer. -/
import Derived.Test.YtmaoadlighjkpaaUg
import Derived.Test.YtmaoadlighjkpaaQe
namespace Go.Proofs.Ytmaoadlighjkpaa.Un
open Go.RowKit Go.Proofs.YtmaoadlighjkpaaW.PrintWords Go.Proofs.YtmaoadlighjkpaaW.PrintLast Go.Proofs.YtmaoadlighjkpaaW.PrintMore
open Go.Proofs.Ytmaoadlighjkpaa.Base Go.Proofs.Ytmaoadlighjkpaa.Map Go.Proofs.Ytmaoadlighjkpaa.Qu Go.Proofs.Ytmaoadlighjkpaa.In
set_option linter.unusedVariables false

theorem rng_canon (n : Nat) : Canon (rngL n) := ⟨fun i hi => by
  rw [rng_len] at hi
  exact ⟨i, rng_rd n i hi, Nat.le_refl _, rng_rd n i hi⟩⟩
theorem rng_cnt (n : Nat) : cntOf (rngL n) = n := by
  unfold cntOf
  rw [rng_len, countP_ext (q := fun _ => true) n (fun i hi => by simp [rng_rd n i hi])]
  simp
theorem Row.of_own {w : World} {base : Nat} {v : Value} {l : List Int} (h : OwI w base v l) : Row w v l := Kd.R_lower (base' := 0) ⟨fun k hk => hk, h.out.2⟩ (Nat.zero_le _)

/-- A union that the call has made since w0. -/
structure UT (w0 w : World) (p : Nat) (hs : List Int) : Prop where
  mk :: (out : ∃ F vU vS vH, Uni w F p vU vS vH hs ∧ (∀ k, F k → w0.heap.size ≤ k ∧ k < w.heap.size) ∧ Below w0.heap.size w0 w)
section
variable {w0 w w1 : World} {p : Nat} {hs ns : List Int}
theorem UT.bel (h : UT w0 w p hs) : Below w0.heap.size w0 w := by obtain ⟨F, vU, vS, vH, _, _, h⟩ := h; exact h
theorem UT.can (h : UT w0 w p hs) : Canon hs := by obtain ⟨F, vU, vS, vH, h, _⟩ := h; exact h.can
theorem UT.below (h : UT w0 w p hs) (hb : Below w.heap.size w w1) : UT w0 w1 p hs := by
  obtain ⟨F, vU, vS, vH, h1, h2, h3⟩ := h
  exact ⟨F, vU, vS, vH, h1.below hb, fun k hk => ⟨(h2 k hk).1, Nat.lt_of_lt_of_le (h2 k hk).2 hb.size⟩, below_then h3 h3.size hb⟩
@[simp] theorem UT.alloc (h : UT w0 w p hs) (o : Obj) : UT w0 (w.alloc o) p hs := h.below (below_alloc (Below.refl _ _) o)
@[simp] theorem UT.drew (h : UT w0 w p hs) : UT w0 w.drew p hs := h.below (below_drew (Below.refl _ _))
@[simp] theorem UT.drewN (h : UT w0 w p hs) (n : Nat) : UT w0 (w.drewN n) p hs := h.below (pw_below_drewN (Below.refl _ _) n)
theorem UT.next {F : Nat → Prop} {vU vS vH : Value} (h : Uni w1 F p vU vS vH hs) (hC : Chg F w w1) (h2 : ∀ k, F k → w0.heap.size ≤ k ∧ k < w.heap.size) (h3 : Below w0.heap.size w0 w) : UT w0 w1 p hs :=
  ⟨F, vU, vS, vH, h, fun k hk => ⟨(h2 k hk).1, Nat.lt_of_lt_of_le (h2 k hk).2 hC.size⟩, h3.trans (hC.below h3.size (fun k hk => (h2 k hk).1))⟩
end
theorem uni_new {w w' : World} {p n : Nat} {vU vS vH : Value} (h : NP w w' p n vU vS vH vU vS vH (rngL n) (oneL n) (rngL n)) : Uni w' (fun k => w.heap.size ≤ k ∧ k < w'.heap.size) p vU vS vH (rngL n) := by
  have hp : p < w'.heap.size := blk_lt h.blk
  refine ⟨rngL n, oneL n, rngL n, id, fun _ => 0, ⟨by rw [rng_cnt]; exact h.blk, Row.of_own h.u, Row.of_own h.s, Row.of_own h.h, fun k hk => ⟨(h.dU k hk).1, (h.dU k hk).2, (OwI.blk h.u hk).1, (OwI.blk h.u hk).2.1⟩, fun k hk => ⟨h.dS k hk, (OwI.blk h.s hk).1, (OwI.blk h.s hk).2.1⟩, fun k hk => ⟨(OwI.blk h.h hk).1, (OwI.blk h.h hk).2.1⟩, ⟨h.pb, hp⟩, by rw [one_len, rng_len], rfl⟩, ⟨fun i hi => ?_⟩, ⟨fun i hi => rfl, fun i j hi hj e => ?_, rng_canon n⟩, rfl⟩
  · rw [rng_len] at hi
    exact ⟨i, rng_rd n i hi, by rw [rng_len]; exact hi, rfl, by rw [rng_len]; exact hi, rng_rd n i hi, fun _ => rfl, fun e => absurd rfl e⟩
  · rw [rng_len] at hi hj
    rw [rng_rd n i hi, rng_rd n j hj] at e
    have e2 : i = j := by omega
    exact e2
theorem new_ut (w0 w : World) (hb : Below w0.heap.size w0 w) (n : Nat) (hn : n ≤ 65536) : Calls Try.prog 48 #[.int .i64 (n : Int)] w fun e w' => e = .returned (.tuple #[.pointer (some ⟨w.heap.size, 0, none⟩), .int .i64 0]) ∧ UT w0 w' w.heap.size (rngL n) :=
  (new_good n w hn).mono fun e w' ⟨vU, vS, vH, h1, h2⟩ => ⟨h1, ⟨_, vU, vS, vH, uni_new h2, fun k hk => ⟨Nat.le_trans hb.size hk.1, hk.2⟩, below_then hb hb.size h2.bel⟩⟩
theorem count_ut (w0 w : World) (p : Nat) (hs : List Int) (h : UT w0 w p hs) : Calls Try.prog 50 #[.pointer (some ⟨p, 0, none⟩)] w fun e w' => e = .returned (.int .i64 (cntOf hs : Int)) ∧ w = w' := by
  obtain ⟨F, vU, vS, vH, ⟨U, S, H, R, d, h1, _⟩, _⟩ := h
  exact count_any p F vU vS vH U S H _ w h1
theorem head_ut (w0 w : World) (p : Nat) (hs : List Int) (n : Int) (h : UT w0 w p hs) : Calls Try.prog 52 #[.pointer (some ⟨p, 0, none⟩), .int .i64 n] w fun e w' => e = .returned (.int .i64 (headOf hs n)) ∧ UT w0 w' p hs := by
  obtain ⟨F, vU, vS, vH, h1, h2, h3⟩ := h
  exact (head_any p F vU vS vH hs n w h1).mono fun e w' ⟨r1, r2, r3⟩ => ⟨r1, UT.next r2 r3 h2 h3⟩
theorem lit_st {w : World} {F : Nat → Prop} (xs : List Int) (hl : xs.length ≤ 1000) (hF : ∀ k, F k → k < w.heap.size) : ∀ W, Chg F (w.alloc (.cells (nums .i64 xs).toArray 3)) W → RdV W (.slice (some ⟨w.heap.size, 0, none⟩) xs.length xs.length) xs :=
  st_own (OwI.lit w xs (by omega)) hF
/-- a literal of numbers is joined -/
theorem join_lit (w0 w : World) (p : Nat) (hs xs : List Int) (h : UT w0 w p hs) (hl : xs.length ≤ 1000) (hlen : hs.length ≤ 1000000) :
    Calls Try.prog 51 #[.pointer (some ⟨p, 0, none⟩), .slice (some ⟨w.heap.size, 0, none⟩) xs.length xs.length] (w.alloc (.cells (nums .i64 xs).toArray 3)) fun e w' => e = .returned (.bool (decide (joinS hs xs ≠ hs))) ∧ UT w0 w' p (joinS hs xs) := by
  obtain ⟨F, vU, vS, vH, h1, h2, h3⟩ := h
  exact (join_any p F vU vS vH hs xs _ _ (h1.below (below_alloc (Below.refl _ _) _)) (lit_st xs hl (fun k hk => (h2 k hk).2)) hlen (by omega)).mono fun e w' ⟨r1, r2, r3⟩ => ⟨r1, UT.next r2 r3 (fun k hk => ⟨(h2 k hk).1, by have := (h2 k hk).2; simp; omega⟩) (below_alloc h3 _)⟩
theorem same_lit (w0 w : World) (p : Nat) (hs xs : List Int) (h : UT w0 w p hs) (hl : xs.length ≤ 1000) :
    Calls Try.prog 49 #[.pointer (some ⟨p, 0, none⟩), .slice (some ⟨w.heap.size, 0, none⟩) xs.length xs.length] (w.alloc (.cells (nums .i64 xs).toArray 3)) fun e w' => e = .returned (.bool (sameB hs xs)) ∧ UT w0 w' p hs := by
  obtain ⟨F, vU, vS, vH, h1, h2, h3⟩ := h
  exact (same_any_u p F vU vS vH hs xs _ _ (h1.below (below_alloc (Below.refl _ _) _)) (lit_st xs hl (fun k hk => (h2 k hk).2))).mono fun e w' ⟨r1, r2, r3⟩ => ⟨r1, UT.next r2 r3 (fun k hk => ⟨(h2 k hk).1, by have := (h2 k hk).2; simp; omega⟩) (below_alloc h3 _)⟩

set_option maxHeartbeats 1000000 in
set_option maxRecDepth 100000 in
theorem awake_un (w : World) : Calls Try.prog 47 #[] w fun e w' => e = .returned (.bool true) ∧ Below w.heap.size w w' := by
  have j1 : joinS (rngL 4) [3, 1] = [0, 1, 2, 1] := by decide
  have j2 : decide (([0, 1, 2, 1] : List Int) ≠ rngL 4) = true := by decide
  have j3 : headOf [0, 1, 2, 1] 3 = 1 := by decide
  have j4 : cntOf [0, 1, 2, 1] = 3 := by decide
  have hn : ∀ w0 w : World, Below w0.heap.size w0 w → Calls Try.prog 48 #[.int .i64 4] w fun e w' => e = .returned (.tuple #[.pointer (some ⟨w.heap.size, 0, none⟩), .int .i64 0]) ∧ UT w0 w' w.heap.size (rngL 4) := fun w0 w hb => new_ut w0 w hb 4 (by decide)
  have hrl : (rngL 4).length ≤ 1000000 := by decide
  generalize rngL 4 = r4 at *
  go_enter Try.func47, Try.ntmps47
  go_wp2_with fail
  refine (hn w w (Below.refl _ _)).mono ?_
  rintro e w1 ⟨rfl, h1⟩
  generalize w.heap.size = p at *
  go_wp2_with fail
  refine (join_lit w w1 p r4 [3, 1] h1 (by decide) hrl).mono ?_
  rintro e w2 ⟨rfl, h2⟩
  rw [j1] at h2 ⊢
  rw [j2]
  go_wp2_with fail
  refine (head_ut w w2 p [0, 1, 2, 1] 3 h2).mono ?_
  rintro e w3 ⟨rfl, h3⟩
  rw [j3]
  go_wp2_with fail
  refine (count_ut w w3 p [0, 1, 2, 1] h3).mono ?_
  rintro e w4 ⟨rfl, rfl⟩
  rw [j4]
  go_wp2
  go_ret
  exact ⟨rfl, h3.bel⟩
end Go.Proofs.Ytmaoadlighjkpaa.Un
