/- The queue's line: left, Len, List, take. -/
import Derived.Test.YtmaoadlighjkpaaMap
import Derived.Test.YtmaoadlighjkpaaCa
namespace Go.Proofs.Ytmaoadlighjkpaa.Qu
open Go.RowKit Go.Proofs.YtmaoadlighjkpaaW.PrintWords Go.Proofs.YtmaoadlighjkpaaW.PrintLast Go.Proofs.YtmaoadlighjkpaaW.PrintMore
open Go.Proofs.Ytmaoadlighjkpaa.Base Go.Proofs.Ytmaoadlighjkpaa.Map Go.Proofs.Ytmaoadlighjkpaa.Ca

/-- The call's own slice of ints, its block one of F. -/
structure OwF (w : World) (F : Nat → Prop) (v : Value) (l : List Int) : Prop where mk :: (out : Kd.R (Kd.int .i64) 3 w 0 F v l)
/-- F, and what is new since. -/
def ext (F : Nat → Prop) (w w' : World) : Nat → Prop := fun k => F k ∨ (w.heap.size ≤ k ∧ k < w'.heap.size)

section
variable {w w1 : World} {F F' : Nat → Prop} {v : Value} {l : List Int}
theorem OwF.toV (h : OwF w F v l) : RdV w v l := by
  obtain ⟨A, c, h1, h2, h3⟩ := Kd.R_reads h.out
  exact ⟨A, c, h1, h2, ⟨h3⟩⟩
theorem OwF.mono (h : OwF w F v l) (hF : ∀ k, F k → F' k) : OwF w F' v l := ⟨Kd.R_mono h.out hF⟩
theorem OwF.below (h : OwF w F v l) (hb : Below w.heap.size w w1) : OwF w1 F v l := ⟨Kd.R_below h.out hb⟩
theorem OwF.far (h : OwF w F v l) {g t : Nat} {cells : Array Value} (hb : w.heap[g]? = some (.cells cells t (0, 0))) (ht : 3 ≠ t) (j : Nat) (u : Value) : OwF (w.setCell ⟨g, j, none⟩ u) F v l :=
  ⟨Kd.R_set h.out hb (fun q hq => by rcases List.mem_cons.1 hq with rfl | hq; exact ht; cases hq) j u⟩
theorem OwF.of_own {base : Nat} (h : OwI w base v l) (hF : ∀ k, base ≤ k → k < w.heap.size → F k) : OwF w F v l :=
  ⟨Kd.R_lower (Kd.R_mono (Kd.R_bound h.out) (fun k hk => hF k hk.2.1 hk.2.2.1)) (Nat.zero_le _)⟩
end

/-- The line in block g: what is left is l; m is the third cell (Queue's map). -/
def LineAt (w : World) (F : Nat → Prop) (g : Nat) (m : Value) (l : List Int) : Prop :=
  ∃ (v : Value) (xs : List Int) (t : Nat), w.heap[g]? = some (.cells #[v, .int .i64 (t : Int), m] 45 (0, 0)) ∧ OwF w F v xs ∧ t ≤ xs.length ∧ l = xs.drop t ∧ (t ≤ 32 ∨ 2 * t ≤ xs.length) ∧ F g

theorem LineAt.below {w w1 : World} {F : Nat → Prop} {g : Nat} {m : Value} {l : List Int} (h : LineAt w F g m l) (hb : Below w.heap.size w w1) : LineAt w1 F g m l := by
  obtain ⟨v, xs, t, h1, h2, h3⟩ := h
  exact ⟨v, xs, t, (hb.block g (blk_lt h1)).trans h1, h2.below hb, h3⟩
theorem LineAt.mono {w : World} {F F' : Nat → Prop} {g : Nat} {m : Value} {l : List Int} (h : LineAt w F g m l) (hF : ∀ k, F k → F' k) : LineAt w F' g m l := by
  obtain ⟨v, xs, t, h1, h2, h3, h4, h5, h6⟩ := h
  exact ⟨v, xs, t, h1, h2.mono hF, h3, h4, h5, hF _ h6⟩
/-- the same without a word on how much is taken -/
def LineW (w : World) (F : Nat → Prop) (g : Nat) (m : Value) (l : List Int) : Prop :=
  ∃ (v : Value) (xs : List Int) (t : Nat), w.heap[g]? = some (.cells #[v, .int .i64 (t : Int), m] 45 (0, 0)) ∧ OwF w F v xs ∧ t ≤ xs.length ∧ l = xs.drop t
theorem LineAt.toW {w : World} {F : Nat → Prop} {g : Nat} {m : Value} {l : List Int} (h : LineAt w F g m l) : LineW w F g m l := by
  obtain ⟨v, xs, t, h1, h2, h3, h4, _⟩ := h
  exact ⟨v, xs, t, h1, h2, h3, h4⟩
/-- how long the row is -/
theorem line_len {xs l : List Int} {t : Nat} (h3 : t ≤ xs.length) (h4 : l = xs.drop t) (h5 : t ≤ 32 ∨ 2 * t ≤ xs.length) : xs.length = t + l.length ∧ xs.length ≤ 2 * l.length + 32 := by
  have : l.length = xs.length - t := by rw [h4, List.length_drop]
  omega

set_option maxHeartbeats 1000000 in
set_option maxRecDepth 100000 in
theorem left_any (g : Nat) (F : Nat → Prop) (m : Value) (l : List Int) (w : World) (h : LineW w F g m l) :
    Calls Try.prog 77 #[.pointer (some ⟨g, 0, none⟩)] w fun e w' => ∃ v, e = .returned v ∧ RdV w' v l ∧ Below w.heap.size w w' := by
  obtain ⟨v, xs, t, hb, ho, ht, hl⟩ := h
  obtain ⟨A, c, rfl, hc, hr⟩ := ho.toV
  obtain ⟨A', c', hcut, hread⟩ := cut_from A c xs t (by omega) (by omega) hc
  have hR := hread w hr
  rw [Int.toNat_natCast] at hcut hR
  rw [← hl] at hcut hR
  have c0 : w.cell? ⟨g, 0, none⟩ = some (.slice A xs.length c) := blk_cell hb 0
  have c1 : w.cell? ⟨g, 1, none⟩ = some (.int .i64 (t : Int)) := blk_cell hb 1
  have b0 : (0 : Int) ≤ (t : Int) := by omega
  have b1 : (t : Int) ≤ (c : Int) := by omega
  clear hb hread hr ho hl
  go_enter Try.func77, Try.ntmps77
  go_wp2_with fail
  go_quiet (fail)
  go_wp2
  go_ret
  exact ⟨_, rfl, hR.drewN _, pw_below_drewN (Below.refl _ _) _⟩

set_option maxHeartbeats 1000000 in
set_option maxRecDepth 100000 in
theorem len_any (g : Nat) (F : Nat → Prop) (m : Value) (l : List Int) (w : World) (h : LineW w F g m l) :
    Calls Try.prog 33 #[.pointer (some ⟨g, 0, none⟩)] w fun e w' => e = .returned (.int .i64 (l.length : Int)) ∧ Below w.heap.size w w' := by
  go_enter Try.func33, Try.ntmps33
  go_wp2_with (first | (go_at_call 77; (with_reducible refine (left_any g F m l _ h).mono ?_); rintro e w1 ⟨v1, rfl, H1, H2⟩; obtain ⟨A, c, rfl, hc, hr⟩ := H1))
  go_ret
  exact ⟨rfl, H2⟩

set_option maxHeartbeats 1000000 in
set_option maxRecDepth 100000 in
theorem list_any (g : Nat) (F : Nat → Prop) (m : Value) (l : List Int) (w : World) (h : LineW w F g m l) (hl : l.length * 8 ≤ 140737488355328) :
    Calls Try.prog 35 #[.pointer (some ⟨g, 0, none⟩)] w fun e w' => ∃ v, e = .returned v ∧ OwI w' w.heap.size v l ∧ Below w.heap.size w w' := by
  have HL := Aside0.mk hl
  clear hl
  go_enter Try.func35, Try.ntmps35
  go_wp2_with (first | (go_at_call 77; (with_reducible refine (left_any g F m l _ h).mono ?_); rintro e w1 ⟨v1, rfl, H1, H2⟩) | (go_at_call 74; (with_reducible refine (clone_any _ l _ H1 HL.out).mono ?_); rintro e w2 ⟨v2, rfl, H3, H4⟩))
  go_ret
  exact ⟨_, rfl, H3.lower H2.size, bel_trans H2 H4⟩
end Go.Proofs.Ytmaoadlighjkpaa.Qu
