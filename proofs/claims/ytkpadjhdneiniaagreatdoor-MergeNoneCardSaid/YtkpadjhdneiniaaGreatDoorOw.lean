/- Slices of numbers that a call owns, told by a set of blocks; the library's BinarySearch, Insert, Clone, Sort and Compact over them. -/
import Derived.Test.YtkpadjhdneiniaaGreatDoorMap
import Derived.Test.YtkpadjhdneiniaaGreatDoorShelf
import Derived.Test.YtkpadjhdneiniaaGreatDoorSl
namespace Go.Proofs.YtkpadjhdneiniaaGreatDoor.Ow
set_option linter.unusedVariables false
open Go.RowKit Go.Proofs.YtkpadjhdneiniaaGreatDoorW.PrintWords Go.Proofs.YtkpadjhdneiniaaGreatDoorW.PrintLast Go.Proofs.YtkpadjhdneiniaaGreatDoorW.PrintMore
open Go.Proofs.YtkpadjhdneiniaaGreatDoor.Base Go.Proofs.YtkpadjhdneiniaaGreatDoor.Map Go.Proofs.YtkpadjhdneiniaaGreatDoor.Sl

/-- The call's own slice of ints, its block one of F. -/
structure OwF (w : World) (F : Nat → Prop) (v : Value) (l : List Int) : Prop where mk :: (out : Kd.R (Kd.int .i64) 3 w 0 F v l)
/-- F, and what is new since. -/
def ext (F : Nat → Prop) (w w' : World) : Nat → Prop := fun k => F k ∨ (w.heap.size ≤ k ∧ k < w'.heap.size)
/-- what is new since -/
def new (w w' : World) : Nat → Prop := fun k => w.heap.size ≤ k ∧ k < w'.heap.size

section
variable {w w1 : World} {F F' : Nat → Prop} {v : Value} {l : List Int}
theorem OwF.toV (h : OwF w F v l) : RdV w v l := by
  obtain ⟨A, c, h1, h2, h3⟩ := Kd.R_reads h.out
  exact ⟨A, c, h1, h2, ⟨h3⟩⟩
theorem OwF.mono (h : OwF w F v l) (hF : ∀ k, F k → F' k) : OwF w F' v l := ⟨Kd.R_mono h.out hF⟩
theorem OwF.below (h : OwF w F v l) (hb : Below w.heap.size w w1) : OwF w1 F v l := ⟨Kd.R_below h.out hb⟩
theorem OwF.chg {G : Nat → Prop} (h : OwF w F v l) (hC : Chg G w w1) (hd : ∀ k, F k → ¬ G k) : OwF w1 F v l := ⟨Kd.R_step h.out (fun k hk hlt => hC.block k hlt (hd k hk))⟩
theorem OwF.bound (h : OwF w F v l) : OwF w (fun k => F k ∧ k < w.heap.size) v l := ⟨Kd.R_mono (Kd.R_bound h.out) (fun k hk => ⟨hk.1, hk.2.2.1⟩)⟩
theorem OwF.far {g t : Nat} {cells : Array Value} (h : OwF w F v l) (hb : w.heap[g]? = some (.cells cells t (0, 0))) (ht : 3 ≠ t) (j : Nat) (u : Value) : OwF (w.setCell ⟨g, j, none⟩ u) F v l :=
  ⟨Kd.R_set h.out hb (fun q hq => by rcases List.mem_cons.1 hq with rfl | hq; exact ht; cases hq) j u⟩
theorem OwF.of_own {base : Nat} (h : OwI w base v l) (hF : ∀ k, base ≤ k → k < w.heap.size → F k) : OwF w F v l :=
  ⟨Kd.R_lower (Kd.R_mono (Kd.R_bound h.out) (fun k hk => hF k hk.2.1 hk.2.2.1)) (Nat.zero_le _)⟩
theorem OwF.nil (w : World) (F : Nat → Prop) : OwF w F (.slice none 0 0) [] := ⟨Kd.R_nil _ _ _ _ _⟩
theorem OwF.max (h : OwF w F v l) : l.length ≤ 9223372036854775807 := h.toV.max
/-- how such a slice lies -/
theorem OwF.form (h : OwF w F v l) : (v = .slice none 0 0 ∧ l = []) ∨ ∃ g cap cur, v = .slice (some ⟨g, 0, none⟩) l.length cap ∧ F g ∧ w.heap[g]? = some (.cells cur 3 (0, 0)) ∧ l.length ≤ cap ∧ cap ≤ maxLen ∧ cur.size = cap ∧ cur.toList.take l.length = nums .i64 l := by
  have ho := Kd.own_of_R h.out
  rcases ho.2 with ⟨h1, h0⟩ | ⟨g, cap, cur, hv, _, hg, h1, h2, h3, h4⟩
  · exact .inl ⟨h1, List.eq_nil_of_length_eq_zero h0⟩
  · exact .inr ⟨g, cap, cur, hv, h.out.1 g (by rw [hv]; rfl), hg, h1, h2, by omega, by rw [Nat.mul_one] at h4; exact h4⟩
theorem OwF.of_block {g cap : Nat} {cur : Array Value} (hF : F g) (hg : w.heap[g]? = some (.cells cur 3 (0, 0))) (h1 : l.length ≤ cap) (h2 : cap ≤ maxLen) (h3 : cur.size = cap) (h4 : cur.toList.take l.length = nums .i64 l) : OwF w F (.slice (some ⟨g, 0, none⟩) l.length cap) l :=
  ⟨Kd.R_of_own ⟨by simp [encs], .inr ⟨g, cap, cur, rfl, Nat.zero_le _, hg, h1, h2, by omega, by rw [Nat.mul_one]; exact h4⟩⟩ (fun k hk => by cases hk; exact hF)⟩
end
theorem blk_below {w w1 : World} {g : Nat} {o : Obj} (h : w.heap[g]? = some o) (hb : Below w.heap.size w w1) : w1.heap[g]? = some o := (hb.block g (blk_lt h)).trans h
theorem nums_one (l : List Int) : ∀ v ∈ nums .i64 l, v.oneCell' = true := by
  intro v hv
  obtain ⟨x, _, rfl⟩ := List.mem_map.1 hv
  rfl
/-- the cells of what reads -/
theorem RdV.cells {w : World} {v : Value} {l : List Int} (h : RdV w v l) (h0 : 0 < l.length) : ∃ b off c, v = .slice (some ⟨b, off, none⟩) l.length c ∧ l.length ≤ c ∧ ∀ j, j < l.length → w.cell? ⟨b, off + j, none⟩ = some (.int .i64 (l.getD j 0)) := by
  obtain ⟨A, c, rfl, hc, hr⟩ := h
  obtain ⟨ad, rfl, hx⟩ := hr.at_ 0 (by omega) (by omega)
  obtain ⟨b, off, sp⟩ := ad
  obtain rfl : sp = none := by
    cases sp with
    | none => rfl
    | some s =>
      have hx2 : w.cell? ⟨b, off, some s⟩ = some (.int .i64 (rd l 0)) := hx
      unfold World.cell? at hx2
      split at hx2
      · simp at hx2
      · cases hx2
  refine ⟨b, off, c, rfl, hc, fun j hj => ?_⟩
  obtain ⟨ad2, e2, hx2⟩ := hr.at_ j (by omega) (by omega)
  cases e2
  have e3 : (⟨b, off, none⟩ : Addr).add ((j : Int).toNat) = ⟨b, off + j, none⟩ := by
    unfold Addr.add; split <;> simp_all
  rw [e3] at hx2
  rw [hx2, rd]
  simp
theorem srt_le {l : List Int} (h : Srt l) : l.Pairwise (· ≤ ·) := h.imp fun {a b} hab => by omega
/-- BinarySearch -/
theorem bs_any (v : Value) (l : List Int) (x : Int) (w : World) (h : RdV w v l) (hs : Srt l) (hl : l.length ≤ 1000000000) :
    Calls Tryz.prog 82 #[v, .int .i64 x] w fun e w' => e = .returned (.tuple #[.int .i64 (below l x : Nat), .bool (decide (x ∈ l))]) ∧ Below w.heap.size w w' := by
  rcases Nat.eq_zero_or_pos l.length with h0 | h0
  · obtain rfl := List.eq_nil_of_length_eq_zero h0
    obtain ⟨A, c, rfl, hc, hr⟩ := h
    refine (Tryz.slices_BinarySearch_int_empty A c x w).mono ?_
    rintro e w' ⟨rfl, rfl⟩
    exact ⟨by simp [below], Below.refl _ _⟩
  · obtain ⟨b, off, c, rfl, hc, hcell⟩ := RdV.cells h h0
    refine (Tryz.slices_BinarySearch_int b off l.length c l x w (Nat.le_refl _) (by omega) hcell (by rw [List.take_of_length_le (Nat.le_refl _)]; exact srt_le hs)).mono ?_
    rintro e w' ⟨rfl, q, rfl⟩
    rw [List.take_of_length_le (Nat.le_refl _)]
    refine ⟨?_, pw_below_drewN (Below.refl _ _) q⟩
    have : l.contains x = decide (x ∈ l) := by rw [Bool.eq_iff_iff]; simp
    rw [this]; rfl
/-- Clone -/
theorem clone_any (v : Value) (l : List Int) (w : World) (h : RdV w v l) (hl : l.length * 8 ≤ 140737488355328) :
    Calls Tryz.prog 68 #[v] w fun e w' => ∃ v', e = .returned v' ∧ OwI w' w.heap.size v' l ∧ Below w.heap.size w w' := by
  rcases Nat.eq_zero_or_pos l.length with h0 | h0
  · obtain rfl := List.eq_nil_of_length_eq_zero h0
    obtain ⟨A, c, rfl, hc, hr⟩ := h
    cases A with
    | none =>
      refine (Tryz.slices_Clone_int_nil _ c w).mono ?_
      rintro e w' ⟨rfl, rfl⟩
      exact ⟨_, rfl, OwI.nil _ _, Below.refl _ _⟩
    | some ad =>
      refine (Tryz.slices_Clone_int_zero ad c w).mono ?_
      rintro e w' ⟨v', rfl, ho, _, hb⟩
      exact ⟨_, rfl, ⟨Kd.R_of_own ho (fun _ _ => trivial)⟩, hb⟩
  · obtain ⟨b, off, c, rfl, hc, hcell⟩ := RdV.cells h h0
    refine (Tryz.slices_Clone_int b off l.length c l w (Nat.le_refl _) hl hcell).mono ?_
    rintro e w' ⟨v', rfl, ho, _, hb⟩
    rw [List.take_of_length_le (Nat.le_refl _)] at ho
    exact ⟨_, rfl, ⟨Kd.R_of_own ho (fun _ _ => trivial)⟩, hb⟩
end Go.Proofs.YtkpadjhdneiniaaGreatDoor.Ow
