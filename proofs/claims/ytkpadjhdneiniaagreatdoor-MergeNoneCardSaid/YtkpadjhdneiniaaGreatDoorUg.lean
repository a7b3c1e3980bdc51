/- Ug, Uh -/
import Derived.Test.YtkpadjhdneiniaaGreatDoorUa
/- Ug: union.New. -/
section
namespace Go.Proofs.YtkpadjhdneiniaaGreatDoor.Un
open Go.RowKit Go.Proofs.YtkpadjhdneiniaaGreatDoorW.PrintWords Go.Proofs.YtkpadjhdneiniaaGreatDoorW.PrintLast Go.Proofs.YtkpadjhdneiniaaGreatDoorW.PrintMore
open Go.Proofs.YtkpadjhdneiniaaGreatDoor.Base Go.Proofs.YtkpadjhdneiniaaGreatDoor.Map Go.Proofs.YtkpadjhdneiniaaGreatDoor.Ow Go.Proofs.YtkpadjhdneiniaaGreatDoor.Rc
set_option linter.unusedVariables false

theorem chg_cell {F : Nat → Prop} {w w1 : World} {b o : Nat} {v : Value} (h : Chg F w w1) (hn : ¬ F b) (hc : w.cell? ⟨b, o, none⟩ = some v) : w1.cell? ⟨b, o, none⟩ = some v := by
  have hl := block_lt_of_cell hc
  have e := h.block b hl hn
  unfold World.cell? at hc ⊢
  rw [e]; exact hc
def rngL (i : Nat) : List Int := (List.range i).map fun (j : Nat) => (j : Int)
def oneL (i : Nat) : List Int := List.replicate i 1
theorem rng_len (i : Nat) : (rngL i).length = i := by simp [rngL]
theorem one_len (i : Nat) : (oneL i).length = i := by simp [oneL]
theorem rng_snoc (i : Nat) : rngL i ++ [(i : Int)] = rngL (i + 1) := by simp [rngL, List.range_succ]
theorem one_snoc (i : Nat) : oneL i ++ [1] = oneL (i + 1) := by simp [oneL, List.replicate_succ']
theorem rng_rd (n i : Nat) (h : i < n) : rd (rngL n) i = (i : Int) := by rw [rd_nat _ _ (by rw [rng_len]; exact h)]; simp [rngL]

/-- New at work: the union in block p (its fields a0, a1, a2), the rows vU, vS, vH, apart, made by the call. -/
structure NP (w W : World) (p : Nat) (n : Int) (a0 a1 a2 vU vS vH : Value) (lU lS lH : List Int) : Prop where
  blk : W.heap[p]? = some (.cells #[a0, a1, a2, .int .i64 n] 134 (0, 0))
  bel : Below w.heap.size w W
  pb : w.heap.size ≤ p
  u : OwI W w.heap.size vU lU
  s : OwI W w.heap.size vS lS
  h : OwI W w.heap.size vH lH
  dU : ∀ k, vU.ownBlock = some k → vS.ownBlock ≠ some k ∧ vH.ownBlock ≠ some k
  dS : ∀ k, vS.ownBlock = some k → vH.ownBlock ≠ some k
/-- a box that a region has made -/
structure Box (W : World) (b : Nat) (x : Int) (vU vS vH : Value) : Prop where
  cell : W.cell? ⟨b, 0, none⟩ = some (.int .i64 x)
  ne : vU.ownBlock ≠ some b ∧ vS.ownBlock ≠ some b ∧ vH.ownBlock ≠ some b
section
variable {w W w1 : World} {p b : Nat} {n x : Int} {a0 a1 a2 vU vS vH v v1 u : Value} {lU lS lH l l' : List Int}
theorem OwI.blk (h : OwI W w.heap.size v l) {k : Nat} (hk : v.ownBlock = some k) : w.heap.size ≤ k ∧ k < W.heap.size ∧ ∃ cells, W.heap[k]? = some (.cells cells 3 (0, 0)) := by
  obtain ⟨inner, ho⟩ := Kd.R_own h.out
  exact ⟨own_base ho k hk, own_lt ho k hk, own_typed ho k hk⟩
theorem NP.ne (h : NP w W p n a0 a1 a2 vU vS vH lU lS lH) (hr : OwI W w.heap.size v l) : v.ownBlock ≠ some p := fun e => by
  obtain ⟨_, _, cells, hc⟩ := OwI.blk hr e
  rw [h.blk] at hc; cases hc
theorem NP.cells (h : NP w W p n a0 a1 a2 vU vS vH lU lS lH) : W.cell? ⟨p, 0, none⟩ = some a0 ∧ W.cell? ⟨p, 1, none⟩ = some a1 ∧ W.cell? ⟨p, 2, none⟩ = some a2 := ⟨blk_cell h.blk 0, blk_cell h.blk 1, blk_cell h.blk 2⟩
theorem NP.below (h : NP w W p n a0 a1 a2 vU vS vH lU lS lH) (hb : Below W.heap.size W w1) : NP w w1 p n a0 a1 a2 vU vS vH lU lS lH :=
  ⟨Ow.blk_below h.blk hb, below_then h.bel h.bel.size hb, h.pb, h.u.below hb, h.s.below hb, h.h.below hb, h.dU, h.dS⟩
theorem NP.alloc (h : NP w W p n a0 a1 a2 vU vS vH lU lS lH) (o : Obj) : NP w (W.alloc o) p n a0 a1 a2 vU vS vH lU lS lH := h.below (below_alloc (Below.refl _ _) o)
theorem NP.box (h : NP w W p n a0 a1 a2 vU vS vH lU lS lH) (x : Int) : Box (W.alloc (.cells #[.int .i64 x] 3)) W.heap.size x vU vS vH :=
  ⟨by simp, fun e => by have := (OwI.blk h.u e).2.1; omega, fun e => by have := (OwI.blk h.s e).2.1; omega, fun e => by have := (OwI.blk h.h e).2.1; omega⟩
theorem Box.alloc (h : Box W b x vU vS vH) (o : Obj) : Box (W.alloc o) b x vU vS vH := ⟨bel_cell (below_alloc (Below.refl _ _) o) h.cell, h.ne⟩
theorem Box.rd (h : Box W b x vU vS vH) : RdV W (.slice (some ⟨b, 0, none⟩) 1 1) [x] := RdV.one h.cell
theorem own_moved (h : OwI W w.heap.size v l) (hn : ∀ k, v.ownBlock = some k → some k ≠ u.ownBlock) (hg : W.grownBy w1 u.ownBlock) : OwI w1 w.heap.size v l :=
  ⟨Kd.R_mono (Kd.R_grown (ok := fun k => v.ownBlock = some k) (Kd.R_mono (Kd.R_bound (⟨fun k hk => hk, h.out.2⟩ : Kd.R (Kd.int .i64) 3 W w.heap.size (fun k => v.ownBlock = some k) v l)) (fun k hk => hk.1)) hg hn) (fun _ _ => trivial)⟩
theorem box_moved (h : Box W b x vU vS vH) (hu : u.ownBlock ≠ some b) (hg : W.grownBy w1 u.ownBlock) : w1.cell? ⟨b, 0, none⟩ = some (.int .i64 x) :=
  chg_cell (F := fun k => u.ownBlock = some k) (Chg.of_grown hg (fun k hk => hk)) hu h.cell
theorem new_far {k : Nat} (hk : k < W.heap.size) (hu : u.ownBlock ≠ some k) (hat : v1.ownBlock = u.ownBlock ∨ ∃ b, v1.ownBlock = some b ∧ W.heap.size ≤ b) : v1.ownBlock ≠ some k := fun e => by
  rcases hat with e1 | ⟨b, e1, hb⟩
  · exact hu (e1.symm.trans e)
  · rw [e1] at e
    injection e with e
    omega
theorem NP.appU (h : NP w W p n a0 a1 a2 vU vS vH lU lS lH) (hR : OwI w1 w.heap.size v1 l') (hB : Below w.heap.size w w1) (hg : W.grownBy w1 vU.ownBlock) (hat : v1.ownBlock = vU.ownBlock ∨ ∃ b, v1.ownBlock = some b ∧ W.heap.size ≤ b) : NP w w1 p n a0 a1 a2 v1 vS vH l' lS lH :=
  ⟨blk_grown h.blk hg (fun e => h.ne h.u e.symm), hB, h.pb, hR, own_moved h.s (fun k hk e => (h.dU k e.symm).1 hk) hg, own_moved h.h (fun k hk e => (h.dU k e.symm).2 hk) hg,
    fun k hk => ⟨fun e => new_far (OwI.blk h.s e).2.1 (fun e2 => (h.dU k e2).1 e) hat hk, fun e => new_far (OwI.blk h.h e).2.1 (fun e2 => (h.dU k e2).2 e) hat hk⟩, h.dS⟩
theorem NP.appS (h : NP w W p n a0 a1 a2 vU vS vH lU lS lH) (hR : OwI w1 w.heap.size v1 l') (hB : Below w.heap.size w w1) (hg : W.grownBy w1 vS.ownBlock) (hat : v1.ownBlock = vS.ownBlock ∨ ∃ b, v1.ownBlock = some b ∧ W.heap.size ≤ b) : NP w w1 p n a0 a1 a2 vU v1 vH lU l' lH :=
  ⟨blk_grown h.blk hg (fun e => h.ne h.s e.symm), hB, h.pb, own_moved h.u (fun k hk e => (h.dU k hk).1 e.symm) hg, hR, own_moved h.h (fun k hk e => h.dS k e.symm hk) hg,
    fun k hk => ⟨fun e => new_far (OwI.blk h.u hk).2.1 (h.dU k hk).1 hat e, (h.dU k hk).2⟩, fun k hk e => new_far (OwI.blk h.h e).2.1 (fun e2 => h.dS k e2 e) hat hk⟩
theorem NP.appH (h : NP w W p n a0 a1 a2 vU vS vH lU lS lH) (hR : OwI w1 w.heap.size v1 l') (hB : Below w.heap.size w w1) (hg : W.grownBy w1 vH.ownBlock) (hat : v1.ownBlock = vH.ownBlock ∨ ∃ b, v1.ownBlock = some b ∧ W.heap.size ≤ b) : NP w w1 p n a0 a1 a2 vU vS v1 lU lS l' :=
  ⟨blk_grown h.blk hg (fun e => h.ne h.h e.symm), hB, h.pb, own_moved h.u (fun k hk e => (h.dU k hk).2 e.symm) hg, own_moved h.s (fun k hk e => h.dS k hk e.symm) hg, hR,
    fun k hk => ⟨(h.dU k hk).1, fun e => new_far (OwI.blk h.u hk).2.1 (h.dU k hk).2 hat e⟩, fun k hk e => new_far (OwI.blk h.s hk).2.1 (h.dS k hk) hat e⟩
theorem box_lt (h : Box W b x vU vS vH) : b < W.heap.size := block_lt_of_cell h.cell
theorem Box.appU (h : Box W b x vU vS vH) (hg : W.grownBy w1 vU.ownBlock) (hat : v1.ownBlock = vU.ownBlock ∨ ∃ b, v1.ownBlock = some b ∧ W.heap.size ≤ b) : Box w1 b x v1 vS vH := ⟨box_moved h h.ne.1 hg, new_far (box_lt h) h.ne.1 hat, h.ne.2⟩
theorem Box.appS (h : Box W b x vU vS vH) (hg : W.grownBy w1 vS.ownBlock) (hat : v1.ownBlock = vS.ownBlock ∨ ∃ b, v1.ownBlock = some b ∧ W.heap.size ≤ b) : Box w1 b x vU v1 vH := ⟨box_moved h h.ne.2.1 hg, h.ne.1, new_far (box_lt h) h.ne.2.1 hat, h.ne.2.2⟩
theorem own_set (h : NP w W p n a0 a1 a2 vU vS vH lU lS lH) (hr : OwI W w.heap.size v l) (i : Nat) (x : Value) : OwI (W.setCell ⟨p, i, none⟩ x) w.heap.size v l :=
  ⟨Kd.R_set hr.out h.blk (fun q hq => by rcases List.mem_cons.1 hq with rfl | hq; decide; cases hq) i x⟩
theorem NP.set (h : NP w W p n a0 a1 a2 vU vS vH lU lS lH) (i : Nat) (x : Value) {c0 c1 c2 : Value} (hc : (#[a0, a1, a2, .int .i64 n] : Array Value).setIfInBounds i x = #[c0, c1, c2, .int .i64 n]) : NP w (W.setCell ⟨p, i, none⟩ x) p n c0 c1 c2 vU vS vH lU lS lH :=
  ⟨by have := blk_set h.blk i x; rw [hc] at this; exact this, by have := h.bel; exact this.setCell (p := ⟨p, i, none⟩) h.pb x, h.pb, own_set h h.u i x, own_set h h.s i x, own_set h h.h i x, h.dU, h.dS⟩
end

set_option maxHeartbeats 20000000 in
set_option maxRecDepth 100000 in
theorem new_good (n : Nat) (w : World) (h1 : n ≤ 65536) :
    Calls Tryz.prog 72 #[.int .i64 (n : Int)] w fun e w' => ∃ vU vS vH, e = .returned (.tuple #[.pointer (some ⟨w.heap.size, 0, none⟩), .int .i64 0]) ∧ NP w w' w.heap.size n vU vS vH vU vS vH (rngL n) (oneL n) (rngL n) := by
  have i0 : (0 : Int) ≤ (n : Int) := by omega
  have i1 : (n : Int) ≤ 65536 := by omega
  have hN : NP w (w.alloc (.cells #[.slice none 0 0, .slice none 0 0, .slice none 0 0, .int .i64 (n : Int)] 134)) w.heap.size n (.slice none 0 0) (.slice none 0 0) (.slice none 0 0) (.slice none 0 0) (.slice none 0 0) (.slice none 0 0) (rngL 0) (oneL 0) (rngL 0) :=
    ⟨heap_alloc_new _ _, below_alloc (Below.refl _ _) _, Nat.le_refl _, OwI.nil _ _, OwI.nil _ _, OwI.nil _ _, (fun k hk => by simp [Value.ownBlock] at hk), (fun k hk => by simp [Value.ownBlock] at hk)⟩
  have HN := Aside0.mk hN
  clear hN
  go_enter Tryz.func72, Tryz.ntmps72
  go_wp2_with fail
  go_loopw [16] (fun I wr => ∃ (i : Nat) (AU AS AH : Option Addr) (cU cS cH : Nat), I = .int .i64 (i : Int) ∧ i ≤ n ∧ NP w wr w.heap.size n (.slice AU i cU) (.slice AS i cS) (.slice AH i cH) (.slice AU i cU) (.slice AS i cS) (.slice AH i cH) (rngL i) (oneL i) (rngL i)) (fun I _ => n - (intOf I).toNat)
  case atStart => exact ⟨0, none, none, none, 0, 0, 0, rfl, Nat.zero_le _, HN.out⟩
  case round =>
    obtain ⟨i, AU, AS, AH, cU, cS, cH, rfl, hi, h⟩ := hrel
    clear HN
    by_cases hlt : i < n
    · have j0 : (0 : Int) ≤ (i : Int) := by omega
      have j1 : (i : Int) < (n : Int) := by omega
      go_wp2_with fail
      have h := h.below (below_drew (Below.refl _ _))
      refine wp_region_any (by kernel_rfl) ?_
      change wpAny _ _ _ _ _ _ _ (World.drew _)
      generalize wr.drew = W0 at *
      refine wpAny_take (i := 0) (oi := _) (v := ?_) (List.getElem?_toArray.trans rfl) (by kernel_rfl) (by kernel_rfl) (by kernel_rfl) (fun _ _ _ h => h) (Or.inl ⟨by rfl, ?_⟩) ?_
      rotate_left
      · intro w; go_simp <;> with_reducible rfl
      try simp only [Act.put, List.setIfInBounds_toArray, List.set_cons_zero, List.set_cons_succ]
      refine wpAny_take (i := 1) (oi := _) (v := ?_) (List.getElem?_toArray.trans rfl) (by kernel_rfl) (by kernel_rfl) (by kernel_rfl) (fun _ _ _ h => h) (Or.inl ⟨by rfl, ?_⟩) ?_
      rotate_left
      · intro w; go_simp <;> with_reducible rfl
      try simp only [Act.put, List.setIfInBounds_toArray, List.set_cons_zero, List.set_cons_succ]
      refine wpAny_take (i := 2) (oi := _) (v := ?_) (List.getElem?_toArray.trans rfl) (by kernel_rfl) (by kernel_rfl) (by kernel_rfl) (fun _ _ _ h => h) (Or.inl ⟨by rfl, ?_⟩) ?_
      rotate_left
      · intro w; go_simp <;> with_reducible rfl
      try simp only [Act.put, List.setIfInBounds_toArray, List.set_cons_zero, List.set_cons_succ]
      refine wpAny_of_C (S := fun W => W.cell? ⟨w.heap.size, 0, none⟩ = some (.slice AU i cU) ∧ W.cell? ⟨w.heap.size, 1, none⟩ = some (.slice AS i cS) ∧ W.cell? ⟨w.heap.size, 2, none⟩ = some (.slice AH i cH)) (m := 22) _ _ _ _ ?_
      have hHeld := h.cells
      refine wpAnyC_take (i := 3) (oi := _) (v := ?_) (List.getElem?_toArray.trans rfl) [4, 5, 6, 9, 15, 22] (by kernel_rfl) (by kernel_rfl) (by kernel_rfl) (by kernel_rfl) (by kernel_rfl) (by kernel_rfl) (fun _ _ _ h => h) (Or.inl ⟨by rfl, ?_⟩) (by assumption) ?_
      rotate_left
      · intro w hSw; (try dsimp only at hSw); go_simp <;> with_reducible rfl
      try simp only [Act.put, List.setIfInBounds_toArray, List.set_cons_zero, List.set_cons_succ]
      refine wpAnyC_take (i := 4) (oi := _) (v := ?_) (List.getElem?_toArray.trans rfl) [5, 6, 9, 15, 22] (by kernel_rfl) (by kernel_rfl) (by kernel_rfl) (by kernel_rfl) (by kernel_rfl) (by kernel_rfl) (fun _ _ _ h => h) (Or.inl ⟨by rfl, ?_⟩) (by assumption) ?_
      rotate_left
      · intro w hSw; (try dsimp only at hSw); go_simp <;> with_reducible rfl
      try simp only [Act.put, List.setIfInBounds_toArray, List.set_cons_zero, List.set_cons_succ]
      refine wpAnyC_take (i := 5) (oi := _) (v := ?_) (List.getElem?_toArray.trans rfl) [6, 9, 15, 22] (by kernel_rfl) (by kernel_rfl) (by kernel_rfl) (by kernel_rfl) (by kernel_rfl) (by kernel_rfl) (fun _ _ _ h => h) (Or.inl ⟨by rfl, ?_⟩) (by assumption) ?_
      rotate_left
      · intro w hSw; (try dsimp only at hSw); go_simp <;> with_reducible rfl
      try simp only [Act.put, List.setIfInBounds_toArray, List.set_cons_zero, List.set_cons_succ]
      refine wpAnyC_take (i := 6) (oi := _) (v := ?_) (List.getElem?_toArray.trans rfl) [9, 15, 22] (by kernel_rfl) (by kernel_rfl) (by kernel_rfl) (by kernel_rfl) (by kernel_rfl) (by kernel_rfl) (fun _ _ _ h => h) (Or.inl ⟨by rfl, ?_⟩) (by assumption) ?_
      rotate_left
      · intro w hSw; (try dsimp only at hSw); go_simp <;> with_reducible rfl
      try simp only [Act.put, List.setIfInBounds_toArray, List.set_cons_zero, List.set_cons_succ]
      refine wpAnyC_take (i := 7) (oi := _) (v := ?_) (List.getElem?_toArray.trans rfl) [8, 9, 15, 22] (by kernel_rfl) (by kernel_rfl) (by kernel_rfl) (by kernel_rfl) (by kernel_rfl) (by kernel_rfl) (fun _ _ _ h => h) (Or.inl ⟨by rfl, ?_⟩) (by assumption) ?_
      rotate_left
      · intro w hSw; (try dsimp only at hSw); go_simp <;> with_reducible rfl
      try simp only [Act.put, List.setIfInBounds_toArray, List.set_cons_zero, List.set_cons_succ]
      refine wpAnyC_take (i := 10) (oi := _) (v := ?_) (List.getElem?_toArray.trans rfl) [11, 12, 13, 15, 22] (by kernel_rfl) (by kernel_rfl) (by kernel_rfl) (by kernel_rfl) (by kernel_rfl) (by kernel_rfl) (fun _ _ _ h => h) (Or.inl ⟨by rfl, ?_⟩) (by assumption) ?_
      rotate_left
      · intro w hSw; (try dsimp only at hSw); go_simp <;> with_reducible rfl
      try simp only [Act.put, List.setIfInBounds_toArray, List.set_cons_zero, List.set_cons_succ]
      refine wpAnyC_take (i := 11) (oi := _) (v := ?_) (List.getElem?_toArray.trans rfl) [12, 13, 15, 22] (by kernel_rfl) (by kernel_rfl) (by kernel_rfl) (by kernel_rfl) (by kernel_rfl) (by kernel_rfl) (fun _ _ _ h => h) (Or.inl ⟨by rfl, ?_⟩) (by assumption) ?_
      rotate_left
      · intro w hSw; (try dsimp only at hSw); go_simp <;> with_reducible rfl
      try simp only [Act.put, List.setIfInBounds_toArray, List.set_cons_zero, List.set_cons_succ]
      refine wpAnyC_take (i := 12) (oi := _) (v := ?_) (List.getElem?_toArray.trans rfl) [13, 15, 22] (by kernel_rfl) (by kernel_rfl) (by kernel_rfl) (by kernel_rfl) (by kernel_rfl) (by kernel_rfl) (fun _ _ _ h => h) (Or.inl ⟨by rfl, ?_⟩) (by assumption) ?_
      rotate_left
      · intro w hSw; (try dsimp only at hSw); go_simp <;> with_reducible rfl
      try simp only [Act.put, List.setIfInBounds_toArray, List.set_cons_zero, List.set_cons_succ]
      refine wpAnyC_take (i := 13) (oi := _) (v := ?_) (List.getElem?_toArray.trans rfl) [15, 22] (by kernel_rfl) (by kernel_rfl) (by kernel_rfl) (by kernel_rfl) (by kernel_rfl) (by kernel_rfl) (fun _ _ _ h => h) (Or.inl ⟨by rfl, ?_⟩) (by assumption) ?_
      rotate_left
      · intro w hSw; (try dsimp only at hSw); go_simp <;> with_reducible rfl
      try simp only [Act.put, List.setIfInBounds_toArray, List.set_cons_zero, List.set_cons_succ]
      refine wpAnyC_take (i := 16) (oi := _) (v := ?_) (List.getElem?_toArray.trans rfl) [17, 18, 19, 22] (by kernel_rfl) (by kernel_rfl) (by kernel_rfl) (by kernel_rfl) (by kernel_rfl) (by kernel_rfl) (fun _ _ _ h => h) (Or.inl ⟨by rfl, ?_⟩) (by assumption) ?_
      rotate_left
      · intro w hSw; (try dsimp only at hSw); go_simp <;> with_reducible rfl
      try simp only [Act.put, List.setIfInBounds_toArray, List.set_cons_zero, List.set_cons_succ]
      refine wpAnyC_take (i := 17) (oi := _) (v := ?_) (List.getElem?_toArray.trans rfl) [18, 19, 22] (by kernel_rfl) (by kernel_rfl) (by kernel_rfl) (by kernel_rfl) (by kernel_rfl) (by kernel_rfl) (fun _ _ _ h => h) (Or.inl ⟨by rfl, ?_⟩) (by assumption) ?_
      rotate_left
      · intro w hSw; (try dsimp only at hSw); go_simp <;> with_reducible rfl
      try simp only [Act.put, List.setIfInBounds_toArray, List.set_cons_zero, List.set_cons_succ]
      refine wpAnyC_take (i := 18) (oi := _) (v := ?_) (List.getElem?_toArray.trans rfl) [19, 22] (by kernel_rfl) (by kernel_rfl) (by kernel_rfl) (by kernel_rfl) (by kernel_rfl) (by kernel_rfl) (fun _ _ _ h => h) (Or.inl ⟨by rfl, ?_⟩) (by assumption) ?_
      rotate_left
      · intro w hSw; (try dsimp only at hSw); go_simp <;> with_reducible rfl
      try simp only [Act.put, List.setIfInBounds_toArray, List.set_cons_zero, List.set_cons_succ]
      refine wpAnyC_take (i := 19) (oi := _) (v := ?_) (List.getElem?_toArray.trans rfl) [22] (by kernel_rfl) (by kernel_rfl) (by kernel_rfl) (by kernel_rfl) (by kernel_rfl) (by kernel_rfl) (fun _ _ _ h => h) (Or.inl ⟨by rfl, ?_⟩) (by assumption) ?_
      rotate_left
      · intro w hSw; (try dsimp only at hSw); go_simp <;> with_reducible rfl
      try simp only [Act.put, List.setIfInBounds_toArray, List.set_cons_zero, List.set_cons_succ]
      refine wpAnyC_take (i := 20) (oi := _) (v := ?_) (List.getElem?_toArray.trans rfl) [21, 22] (by kernel_rfl) (by kernel_rfl) (by kernel_rfl) (by kernel_rfl) (by kernel_rfl) (by kernel_rfl) (fun _ _ _ h => h) (Or.inl ⟨by rfl, ?_⟩) (by assumption) ?_
      rotate_left
      · intro w hSw; (try dsimp only at hSw); go_simp <;> with_reducible rfl
      try simp only [Act.put, List.setIfInBounds_toArray, List.set_cons_zero, List.set_cons_succ]
      refine wpAnyC_ready (rs := [8, 14, 21]) (by kernel_rfl) (by kernel_rfl) (by simp) ?_
      refine AllC.cons (o := _) (List.getElem?_toArray.trans rfl) (fun K hK => ?_) (AllC.cons (o := _) (List.getElem?_toArray.trans rfl) (fun K hK => ?_) (AllC.cons (o := _) (List.getElem?_toArray.trans rfl) (fun K hK => ?_) (AllC.nil)))
      · go_simp
        refine hK.out _ _ (h.alloc _).cells (fun hHeld => ?_)
        clear hK K
        try simp only [Act.put, List.setIfInBounds_toArray, List.set_cons_zero, List.set_cons_succ]
        have b1 := h.box (i : Int)
        have h := h.alloc (.cells #[.int .i64 (i : Int)] 3)
        generalize W0.alloc (.cells #[.int .i64 (i : Int)] 3) = W1 at *
        generalize W0.heap.size = B1 at *
        refine wpAnyC_ready (rs := [9, 14, 21]) (by kernel_rfl) (by kernel_rfl) (by simp) ?_
        refine AllC.cons (o := _) (List.getElem?_toArray.trans rfl) (fun K hK => ?_) (AllC.cons (o := _) (List.getElem?_toArray.trans rfl) (fun K hK => ?_) (AllC.cons (o := _) (List.getElem?_toArray.trans rfl) (fun K hK => ?_) (AllC.nil)))
        · refine app_row_step (w0 := w) w.heap.size (by rfl) (.tmp 25) (.tmp 27) (by rfl) (.slice AU i cU) _ (rngL i) [(i : Int)] (by rfl) (by rfl) h.u b1.rd h.bel h.bel.size (by rw [rng_len]; simp; omega) ?_
          intro v1 W2 H1 HB hg hat
          rw [rng_snoc] at H1
          have h := h.appU H1 HB hg hat
          obtain ⟨A1', c1', rfl, _, _⟩ := H1.rd
          rw [rng_len] at h
          rw [rng_len]
          refine hK.out _ _ h.cells (fun hHeld => ?_)
          clear hK K H1 HB hg hat
          try simp only [Act.put, List.setIfInBounds_toArray, List.set_cons_zero, List.set_cons_succ]
          refine wpAnyC_ready (rs := [14, 21]) (by kernel_rfl) (by kernel_rfl) (by simp) ?_
          refine AllC.cons (o := _) (List.getElem?_toArray.trans rfl) (fun K hK => ?_) (AllC.cons (o := _) (List.getElem?_toArray.trans rfl) (fun K hK => ?_) (AllC.nil))
          · go_simp
            refine hK.out _ _ (h.alloc _).cells (fun hHeld => ?_)
            clear hK K
            try simp only [Act.put, List.setIfInBounds_toArray, List.set_cons_zero, List.set_cons_succ]
            have b2 := h.box 1
            have b1 := b1.alloc (.cells #[.int .i64 1] 3)
            have h := h.alloc (.cells #[.int .i64 1] 3)
            generalize W2.alloc (.cells #[.int .i64 1] 3) = W3 at *
            generalize W2.heap.size = B3 at *
            refine wpAnyC_ready (rs := [15, 21]) (by kernel_rfl) (by kernel_rfl) (by simp) ?_
            refine AllC.cons (o := _) (List.getElem?_toArray.trans rfl) (fun K hK => ?_) (AllC.cons (o := _) (List.getElem?_toArray.trans rfl) (fun K hK => ?_) (AllC.nil))
            · refine app_row_step (w0 := w) w.heap.size (by rfl) (.tmp 32) (.tmp 33) (by rfl) (.slice AS i cS) _ (oneL i) [1] (by rfl) (by rfl) h.s b2.rd h.bel h.bel.size (by rw [one_len]; simp; omega) ?_
              intro v2 W4 H1 HB hg hat
              rw [one_snoc] at H1
              have h := h.appS H1 HB hg hat
              obtain ⟨A2', c2', rfl, _, _⟩ := H1.rd
              rw [one_len] at h
              rw [one_len]
              refine hK.out _ _ h.cells (fun hHeld => ?_)
              clear hK K H1 HB hg hat
              try simp only [Act.put, List.setIfInBounds_toArray, List.set_cons_zero, List.set_cons_succ]
              refine wpAnyC_ready (rs := [21]) (by kernel_rfl) (by kernel_rfl) (by simp) ?_
              refine AllC.cons (o := _) (List.getElem?_toArray.trans rfl) (fun K hK => ?_) (AllC.nil)
              · go_simp
                refine hK.out _ _ (h.alloc _).cells (fun hHeld => ?_)
                clear hK K
                try simp only [Act.put, List.setIfInBounds_toArray, List.set_cons_zero, List.set_cons_succ]
                have b3 := h.box (i : Int)
                have b1 := b1.alloc (.cells #[.int .i64 (i : Int)] 3)
                have b2 := b2.alloc (.cells #[.int .i64 (i : Int)] 3)
                have h := h.alloc (.cells #[.int .i64 (i : Int)] 3)
                generalize W4.alloc (.cells #[.int .i64 (i : Int)] 3) = W5 at *
                generalize W4.heap.size = B5 at *
                refine wpAnyC_ready (rs := [22]) (by kernel_rfl) (by kernel_rfl) (by simp) ?_
                refine AllC.cons (o := _) (List.getElem?_toArray.trans rfl) (fun K hK => ?_) (AllC.nil)
                · refine app_row_step (w0 := w) w.heap.size (by rfl) (.tmp 38) (.tmp 40) (by rfl) (.slice AH i cH) _ (rngL i) [(i : Int)] (by rfl) (by rfl) h.h b3.rd h.bel h.bel.size (by rw [rng_len]; simp; omega) ?_
                  intro v3 W6 H1 HB hg hat
                  rw [rng_snoc] at H1
                  have h := h.appH H1 HB hg hat
                  obtain ⟨A3', c3', rfl, _, _⟩ := H1.rd
                  rw [rng_len] at h
                  rw [rng_len]
                  refine hK.out _ _ h.cells (fun hHeld => ?_)
                  clear hK K H1 HB hg hat
                  try simp only [Act.put, List.setIfInBounds_toArray, List.set_cons_zero, List.set_cons_succ]
                  refine wpAnyC_cut (by kernel_rfl) ?_
                  refine wpAny_of_held (S := fun _ => True) _ _ _ _ ?_
                  have hT : (fun _ : World => True) W6 := trivial
                  refine wpAnyH_take (i := 23) (oi := _) (v := ?_) (List.getElem?_toArray.trans rfl) (by kernel_rfl) (by kernel_rfl) (by kernel_rfl) (fun _ _ _ h => h) (Or.inl ⟨by rfl, ?_⟩) trivial ?_
                  rotate_left
                  · intro w hSw; (try dsimp only at hSw); go_simp <;> with_reducible rfl
                  try simp only [Act.put, List.setIfInBounds_toArray, List.set_cons_zero, List.set_cons_succ]
                  refine wpAnyH_take (i := 24) (oi := _) (v := ?_) (List.getElem?_toArray.trans rfl) (by kernel_rfl) (by kernel_rfl) (by kernel_rfl) (fun _ _ _ h => h) (Or.inl ⟨by rfl, ?_⟩) trivial ?_
                  rotate_left
                  · intro w hSw; (try dsimp only at hSw); go_simp <;> with_reducible rfl
                  try simp only [Act.put, List.setIfInBounds_toArray, List.set_cons_zero, List.set_cons_succ]
                  have e0 := blk_cell h.blk 0
                  have z0 := blk_frozen h.blk 0
                  refine wpAnyH_ready (rs := [25]) (by kernel_rfl) (by simp) ?_
                  refine AllReadyH.cons (o := _) (List.getElem?_toArray.trans rfl) (fun K hK => ?_) AllReadyH.nil
                  go_simp
                  refine hK.out _ _ trivial (fun hHeld => ?_)
                  clear hK K e0 z0
                  try simp only [Act.put, List.setIfInBounds_toArray, List.set_cons_zero, List.set_cons_succ]
                  have h := h.set 0 (.slice A1' (i + 1) c1') rfl
                  generalize W6.setCell ⟨w.heap.size, 0, none⟩ (.slice A1' (i + 1) c1') = W7 at *
                  refine wpAnyH_take (i := 26) (oi := _) (v := ?_) (List.getElem?_toArray.trans rfl) (by kernel_rfl) (by kernel_rfl) (by kernel_rfl) (fun _ _ _ h => h) (Or.inl ⟨by rfl, ?_⟩) trivial ?_
                  rotate_left
                  · intro w hSw; (try dsimp only at hSw); go_simp <;> with_reducible rfl
                  try simp only [Act.put, List.setIfInBounds_toArray, List.set_cons_zero, List.set_cons_succ]
                  refine wpAnyH_take (i := 27) (oi := _) (v := ?_) (List.getElem?_toArray.trans rfl) (by kernel_rfl) (by kernel_rfl) (by kernel_rfl) (fun _ _ _ h => h) (Or.inl ⟨by rfl, ?_⟩) trivial ?_
                  rotate_left
                  · intro w hSw; (try dsimp only at hSw); go_simp <;> with_reducible rfl
                  try simp only [Act.put, List.setIfInBounds_toArray, List.set_cons_zero, List.set_cons_succ]
                  have e1 := blk_cell h.blk 1
                  have z1 := blk_frozen h.blk 1
                  refine wpAnyH_ready (rs := [28]) (by kernel_rfl) (by simp) ?_
                  refine AllReadyH.cons (o := _) (List.getElem?_toArray.trans rfl) (fun K hK => ?_) AllReadyH.nil
                  go_simp
                  refine hK.out _ _ trivial (fun hHeld => ?_)
                  clear hK K e1 z1
                  try simp only [Act.put, List.setIfInBounds_toArray, List.set_cons_zero, List.set_cons_succ]
                  have h := h.set 1 (.slice A2' (i + 1) c2') rfl
                  generalize W7.setCell ⟨w.heap.size, 1, none⟩ (.slice A2' (i + 1) c2') = W8 at *
                  refine wpAnyH_take (i := 29) (oi := _) (v := ?_) (List.getElem?_toArray.trans rfl) (by kernel_rfl) (by kernel_rfl) (by kernel_rfl) (fun _ _ _ h => h) (Or.inl ⟨by rfl, ?_⟩) trivial ?_
                  rotate_left
                  · intro w hSw; (try dsimp only at hSw); go_simp <;> with_reducible rfl
                  try simp only [Act.put, List.setIfInBounds_toArray, List.set_cons_zero, List.set_cons_succ]
                  refine wpAnyH_take (i := 30) (oi := _) (v := ?_) (List.getElem?_toArray.trans rfl) (by kernel_rfl) (by kernel_rfl) (by kernel_rfl) (fun _ _ _ h => h) (Or.inl ⟨by rfl, ?_⟩) trivial ?_
                  rotate_left
                  · intro w hSw; (try dsimp only at hSw); go_simp <;> with_reducible rfl
                  try simp only [Act.put, List.setIfInBounds_toArray, List.set_cons_zero, List.set_cons_succ]
                  have e2 := blk_cell h.blk 2
                  have z2 := blk_frozen h.blk 2
                  refine wpAnyH_ready (rs := [31]) (by kernel_rfl) (by simp) ?_
                  refine AllReadyH.cons (o := _) (List.getElem?_toArray.trans rfl) (fun K hK => ?_) AllReadyH.nil
                  go_simp
                  refine hK.out _ _ trivial (fun hHeld => ?_)
                  clear hK K e2 z2
                  try simp only [Act.put, List.setIfInBounds_toArray, List.set_cons_zero, List.set_cons_succ]
                  have h := h.set 2 (.slice A3' (i + 1) c3') rfl
                  generalize W8.setCell ⟨w.heap.size, 2, none⟩ (.slice A3' (i + 1) c3') = W9 at *
                  refine wpAnyH_done (by kernel_rfl) ?_ _
                  go_wp2_with fail
                  go_roundw
                  case rel => exact ⟨i + 1, A1', A2', A3', c1', c2', c3', by go_num, by omega, h⟩
                  case measure => simp [intOf]; omega
            · go_simp
              refine hK.out _ _ (h.alloc _).cells (fun hHeld => ?_)
              clear hK K
              try simp only [Act.put, List.setIfInBounds_toArray, List.set_cons_zero, List.set_cons_succ]
              have b3 := h.box (i : Int)
              have b1 := b1.alloc (.cells #[.int .i64 (i : Int)] 3)
              have b2 := b2.alloc (.cells #[.int .i64 (i : Int)] 3)
              have h := h.alloc (.cells #[.int .i64 (i : Int)] 3)
              generalize W3.alloc (.cells #[.int .i64 (i : Int)] 3) = W10 at *
              generalize W3.heap.size = B10 at *
              refine wpAnyC_ready (rs := [15]) (by kernel_rfl) (by kernel_rfl) (by simp) ?_
              refine AllC.cons (o := _) (List.getElem?_toArray.trans rfl) (fun K hK => ?_) (AllC.nil)
              · refine app_row_step (w0 := w) w.heap.size (by rfl) (.tmp 32) (.tmp 33) (by rfl) (.slice AS i cS) _ (oneL i) [1] (by rfl) (by rfl) h.s b2.rd h.bel h.bel.size (by rw [one_len]; simp; omega) ?_
                intro v2 W11 H1 HB hg hat
                rw [one_snoc] at H1
                have b3 := b3.appS hg hat
                have h := h.appS H1 HB hg hat
                obtain ⟨A2', c2', rfl, _, _⟩ := H1.rd
                rw [one_len] at h b3
                rw [one_len]
                refine hK.out _ _ h.cells (fun hHeld => ?_)
                clear hK K H1 HB hg hat
                try simp only [Act.put, List.setIfInBounds_toArray, List.set_cons_zero, List.set_cons_succ]
                refine wpAnyC_ready (rs := [22]) (by kernel_rfl) (by kernel_rfl) (by simp) ?_
                refine AllC.cons (o := _) (List.getElem?_toArray.trans rfl) (fun K hK => ?_) (AllC.nil)
                · refine app_row_step (w0 := w) w.heap.size (by rfl) (.tmp 38) (.tmp 40) (by rfl) (.slice AH i cH) _ (rngL i) [(i : Int)] (by rfl) (by rfl) h.h b3.rd h.bel h.bel.size (by rw [rng_len]; simp; omega) ?_
                  intro v3 W12 H1 HB hg hat
                  rw [rng_snoc] at H1
                  have h := h.appH H1 HB hg hat
                  obtain ⟨A3', c3', rfl, _, _⟩ := H1.rd
                  rw [rng_len] at h
                  rw [rng_len]
                  refine hK.out _ _ h.cells (fun hHeld => ?_)
                  clear hK K H1 HB hg hat
                  try simp only [Act.put, List.setIfInBounds_toArray, List.set_cons_zero, List.set_cons_succ]
                  refine wpAnyC_cut (by kernel_rfl) ?_
                  refine wpAny_of_held (S := fun _ => True) _ _ _ _ ?_
                  have hT : (fun _ : World => True) W12 := trivial
                  refine wpAnyH_take (i := 23) (oi := _) (v := ?_) (List.getElem?_toArray.trans rfl) (by kernel_rfl) (by kernel_rfl) (by kernel_rfl) (fun _ _ _ h => h) (Or.inl ⟨by rfl, ?_⟩) trivial ?_
                  rotate_left
                  · intro w hSw; (try dsimp only at hSw); go_simp <;> with_reducible rfl
                  try simp only [Act.put, List.setIfInBounds_toArray, List.set_cons_zero, List.set_cons_succ]
                  refine wpAnyH_take (i := 24) (oi := _) (v := ?_) (List.getElem?_toArray.trans rfl) (by kernel_rfl) (by kernel_rfl) (by kernel_rfl) (fun _ _ _ h => h) (Or.inl ⟨by rfl, ?_⟩) trivial ?_
                  rotate_left
                  · intro w hSw; (try dsimp only at hSw); go_simp <;> with_reducible rfl
                  try simp only [Act.put, List.setIfInBounds_toArray, List.set_cons_zero, List.set_cons_succ]
                  have e0 := blk_cell h.blk 0
                  have z0 := blk_frozen h.blk 0
                  refine wpAnyH_ready (rs := [25]) (by kernel_rfl) (by simp) ?_
                  refine AllReadyH.cons (o := _) (List.getElem?_toArray.trans rfl) (fun K hK => ?_) AllReadyH.nil
                  go_simp
                  refine hK.out _ _ trivial (fun hHeld => ?_)
                  clear hK K e0 z0
                  try simp only [Act.put, List.setIfInBounds_toArray, List.set_cons_zero, List.set_cons_succ]
                  have h := h.set 0 (.slice A1' (i + 1) c1') rfl
                  generalize W12.setCell ⟨w.heap.size, 0, none⟩ (.slice A1' (i + 1) c1') = W13 at *
                  refine wpAnyH_take (i := 26) (oi := _) (v := ?_) (List.getElem?_toArray.trans rfl) (by kernel_rfl) (by kernel_rfl) (by kernel_rfl) (fun _ _ _ h => h) (Or.inl ⟨by rfl, ?_⟩) trivial ?_
                  rotate_left
                  · intro w hSw; (try dsimp only at hSw); go_simp <;> with_reducible rfl
                  try simp only [Act.put, List.setIfInBounds_toArray, List.set_cons_zero, List.set_cons_succ]
                  refine wpAnyH_take (i := 27) (oi := _) (v := ?_) (List.getElem?_toArray.trans rfl) (by kernel_rfl) (by kernel_rfl) (by kernel_rfl) (fun _ _ _ h => h) (Or.inl ⟨by rfl, ?_⟩) trivial ?_
                  rotate_left
                  · intro w hSw; (try dsimp only at hSw); go_simp <;> with_reducible rfl
                  try simp only [Act.put, List.setIfInBounds_toArray, List.set_cons_zero, List.set_cons_succ]
                  have e1 := blk_cell h.blk 1
                  have z1 := blk_frozen h.blk 1
                  refine wpAnyH_ready (rs := [28]) (by kernel_rfl) (by simp) ?_
                  refine AllReadyH.cons (o := _) (List.getElem?_toArray.trans rfl) (fun K hK => ?_) AllReadyH.nil
                  go_simp
                  refine hK.out _ _ trivial (fun hHeld => ?_)
                  clear hK K e1 z1
                  try simp only [Act.put, List.setIfInBounds_toArray, List.set_cons_zero, List.set_cons_succ]
                  have h := h.set 1 (.slice A2' (i + 1) c2') rfl
                  generalize W13.setCell ⟨w.heap.size, 1, none⟩ (.slice A2' (i + 1) c2') = W14 at *
                  refine wpAnyH_take (i := 29) (oi := _) (v := ?_) (List.getElem?_toArray.trans rfl) (by kernel_rfl) (by kernel_rfl) (by kernel_rfl) (fun _ _ _ h => h) (Or.inl ⟨by rfl, ?_⟩) trivial ?_
                  rotate_left
                  · intro w hSw; (try dsimp only at hSw); go_simp <;> with_reducible rfl
                  try simp only [Act.put, List.setIfInBounds_toArray, List.set_cons_zero, List.set_cons_succ]
                  refine wpAnyH_take (i := 30) (oi := _) (v := ?_) (List.getElem?_toArray.trans rfl) (by kernel_rfl) (by kernel_rfl) (by kernel_rfl) (fun _ _ _ h => h) (Or.inl ⟨by rfl, ?_⟩) trivial ?_
                  rotate_left
                  · intro w hSw; (try dsimp only at hSw); go_simp <;> with_reducible rfl
                  try simp only [Act.put, List.setIfInBounds_toArray, List.set_cons_zero, List.set_cons_succ]
                  have e2 := blk_cell h.blk 2
                  have z2 := blk_frozen h.blk 2
                  refine wpAnyH_ready (rs := [31]) (by kernel_rfl) (by simp) ?_
                  refine AllReadyH.cons (o := _) (List.getElem?_toArray.trans rfl) (fun K hK => ?_) AllReadyH.nil
                  go_simp
                  refine hK.out _ _ trivial (fun hHeld => ?_)
                  clear hK K e2 z2
                  try simp only [Act.put, List.setIfInBounds_toArray, List.set_cons_zero, List.set_cons_succ]
                  have h := h.set 2 (.slice A3' (i + 1) c3') rfl
                  generalize W14.setCell ⟨w.heap.size, 2, none⟩ (.slice A3' (i + 1) c3') = W15 at *
                  refine wpAnyH_done (by kernel_rfl) ?_ _
                  go_wp2_with fail
                  go_roundw
                  case rel => exact ⟨i + 1, A1', A2', A3', c1', c2', c3', by go_num, by omega, h⟩
                  case measure => simp [intOf]; omega
          · go_simp
            refine hK.out _ _ (h.alloc _).cells (fun hHeld => ?_)
            clear hK K
            try simp only [Act.put, List.setIfInBounds_toArray, List.set_cons_zero, List.set_cons_succ]
            have b3 := h.box (i : Int)
            have b1 := b1.alloc (.cells #[.int .i64 (i : Int)] 3)
            have h := h.alloc (.cells #[.int .i64 (i : Int)] 3)
            generalize W2.alloc (.cells #[.int .i64 (i : Int)] 3) = W16 at *
            generalize W2.heap.size = B16 at *
            refine wpAnyC_ready (rs := [14]) (by kernel_rfl) (by kernel_rfl) (by simp) ?_
            refine AllC.cons (o := _) (List.getElem?_toArray.trans rfl) (fun K hK => ?_) (AllC.nil)
            · go_simp
              refine hK.out _ _ (h.alloc _).cells (fun hHeld => ?_)
              clear hK K
              try simp only [Act.put, List.setIfInBounds_toArray, List.set_cons_zero, List.set_cons_succ]
              have b2 := h.box 1
              have b1 := b1.alloc (.cells #[.int .i64 1] 3)
              have b3 := b3.alloc (.cells #[.int .i64 1] 3)
              have h := h.alloc (.cells #[.int .i64 1] 3)
              generalize W16.alloc (.cells #[.int .i64 1] 3) = W17 at *
              generalize W16.heap.size = B17 at *
              refine wpAnyC_ready (rs := [15]) (by kernel_rfl) (by kernel_rfl) (by simp) ?_
              refine AllC.cons (o := _) (List.getElem?_toArray.trans rfl) (fun K hK => ?_) (AllC.nil)
              · refine app_row_step (w0 := w) w.heap.size (by rfl) (.tmp 32) (.tmp 33) (by rfl) (.slice AS i cS) _ (oneL i) [1] (by rfl) (by rfl) h.s b2.rd h.bel h.bel.size (by rw [one_len]; simp; omega) ?_
                intro v2 W18 H1 HB hg hat
                rw [one_snoc] at H1
                have b3 := b3.appS hg hat
                have h := h.appS H1 HB hg hat
                obtain ⟨A2', c2', rfl, _, _⟩ := H1.rd
                rw [one_len] at h b3
                rw [one_len]
                refine hK.out _ _ h.cells (fun hHeld => ?_)
                clear hK K H1 HB hg hat
                try simp only [Act.put, List.setIfInBounds_toArray, List.set_cons_zero, List.set_cons_succ]
                refine wpAnyC_ready (rs := [22]) (by kernel_rfl) (by kernel_rfl) (by simp) ?_
                refine AllC.cons (o := _) (List.getElem?_toArray.trans rfl) (fun K hK => ?_) (AllC.nil)
                · refine app_row_step (w0 := w) w.heap.size (by rfl) (.tmp 38) (.tmp 40) (by rfl) (.slice AH i cH) _ (rngL i) [(i : Int)] (by rfl) (by rfl) h.h b3.rd h.bel h.bel.size (by rw [rng_len]; simp; omega) ?_
                  intro v3 W19 H1 HB hg hat
                  rw [rng_snoc] at H1
                  have h := h.appH H1 HB hg hat
                  obtain ⟨A3', c3', rfl, _, _⟩ := H1.rd
                  rw [rng_len] at h
                  rw [rng_len]
                  refine hK.out _ _ h.cells (fun hHeld => ?_)
                  clear hK K H1 HB hg hat
                  try simp only [Act.put, List.setIfInBounds_toArray, List.set_cons_zero, List.set_cons_succ]
                  refine wpAnyC_cut (by kernel_rfl) ?_
                  refine wpAny_of_held (S := fun _ => True) _ _ _ _ ?_
                  have hT : (fun _ : World => True) W19 := trivial
                  refine wpAnyH_take (i := 23) (oi := _) (v := ?_) (List.getElem?_toArray.trans rfl) (by kernel_rfl) (by kernel_rfl) (by kernel_rfl) (fun _ _ _ h => h) (Or.inl ⟨by rfl, ?_⟩) trivial ?_
                  rotate_left
                  · intro w hSw; (try dsimp only at hSw); go_simp <;> with_reducible rfl
                  try simp only [Act.put, List.setIfInBounds_toArray, List.set_cons_zero, List.set_cons_succ]
                  refine wpAnyH_take (i := 24) (oi := _) (v := ?_) (List.getElem?_toArray.trans rfl) (by kernel_rfl) (by kernel_rfl) (by kernel_rfl) (fun _ _ _ h => h) (Or.inl ⟨by rfl, ?_⟩) trivial ?_
                  rotate_left
                  · intro w hSw; (try dsimp only at hSw); go_simp <;> with_reducible rfl
                  try simp only [Act.put, List.setIfInBounds_toArray, List.set_cons_zero, List.set_cons_succ]
                  have e0 := blk_cell h.blk 0
                  have z0 := blk_frozen h.blk 0
                  refine wpAnyH_ready (rs := [25]) (by kernel_rfl) (by simp) ?_
                  refine AllReadyH.cons (o := _) (List.getElem?_toArray.trans rfl) (fun K hK => ?_) AllReadyH.nil
                  go_simp
                  refine hK.out _ _ trivial (fun hHeld => ?_)
                  clear hK K e0 z0
                  try simp only [Act.put, List.setIfInBounds_toArray, List.set_cons_zero, List.set_cons_succ]
                  have h := h.set 0 (.slice A1' (i + 1) c1') rfl
                  generalize W19.setCell ⟨w.heap.size, 0, none⟩ (.slice A1' (i + 1) c1') = W20 at *
                  refine wpAnyH_take (i := 26) (oi := _) (v := ?_) (List.getElem?_toArray.trans rfl) (by kernel_rfl) (by kernel_rfl) (by kernel_rfl) (fun _ _ _ h => h) (Or.inl ⟨by rfl, ?_⟩) trivial ?_
                  rotate_left
                  · intro w hSw; (try dsimp only at hSw); go_simp <;> with_reducible rfl
                  try simp only [Act.put, List.setIfInBounds_toArray, List.set_cons_zero, List.set_cons_succ]
                  refine wpAnyH_take (i := 27) (oi := _) (v := ?_) (List.getElem?_toArray.trans rfl) (by kernel_rfl) (by kernel_rfl) (by kernel_rfl) (fun _ _ _ h => h) (Or.inl ⟨by rfl, ?_⟩) trivial ?_
                  rotate_left
                  · intro w hSw; (try dsimp only at hSw); go_simp <;> with_reducible rfl
                  try simp only [Act.put, List.setIfInBounds_toArray, List.set_cons_zero, List.set_cons_succ]
                  have e1 := blk_cell h.blk 1
                  have z1 := blk_frozen h.blk 1
                  refine wpAnyH_ready (rs := [28]) (by kernel_rfl) (by simp) ?_
                  refine AllReadyH.cons (o := _) (List.getElem?_toArray.trans rfl) (fun K hK => ?_) AllReadyH.nil
                  go_simp
                  refine hK.out _ _ trivial (fun hHeld => ?_)
                  clear hK K e1 z1
                  try simp only [Act.put, List.setIfInBounds_toArray, List.set_cons_zero, List.set_cons_succ]
                  have h := h.set 1 (.slice A2' (i + 1) c2') rfl
                  generalize W20.setCell ⟨w.heap.size, 1, none⟩ (.slice A2' (i + 1) c2') = W21 at *
                  refine wpAnyH_take (i := 29) (oi := _) (v := ?_) (List.getElem?_toArray.trans rfl) (by kernel_rfl) (by kernel_rfl) (by kernel_rfl) (fun _ _ _ h => h) (Or.inl ⟨by rfl, ?_⟩) trivial ?_
                  rotate_left
                  · intro w hSw; (try dsimp only at hSw); go_simp <;> with_reducible rfl
                  try simp only [Act.put, List.setIfInBounds_toArray, List.set_cons_zero, List.set_cons_succ]
                  refine wpAnyH_take (i := 30) (oi := _) (v := ?_) (List.getElem?_toArray.trans rfl) (by kernel_rfl) (by kernel_rfl) (by kernel_rfl) (fun _ _ _ h => h) (Or.inl ⟨by rfl, ?_⟩) trivial ?_
                  rotate_left
                  · intro w hSw; (try dsimp only at hSw); go_simp <;> with_reducible rfl
                  try simp only [Act.put, List.setIfInBounds_toArray, List.set_cons_zero, List.set_cons_succ]
                  have e2 := blk_cell h.blk 2
                  have z2 := blk_frozen h.blk 2
                  refine wpAnyH_ready (rs := [31]) (by kernel_rfl) (by simp) ?_
                  refine AllReadyH.cons (o := _) (List.getElem?_toArray.trans rfl) (fun K hK => ?_) AllReadyH.nil
                  go_simp
                  refine hK.out _ _ trivial (fun hHeld => ?_)
                  clear hK K e2 z2
                  try simp only [Act.put, List.setIfInBounds_toArray, List.set_cons_zero, List.set_cons_succ]
                  have h := h.set 2 (.slice A3' (i + 1) c3') rfl
                  generalize W21.setCell ⟨w.heap.size, 2, none⟩ (.slice A3' (i + 1) c3') = W22 at *
                  refine wpAnyH_done (by kernel_rfl) ?_ _
                  go_wp2_with fail
                  go_roundw
                  case rel => exact ⟨i + 1, A1', A2', A3', c1', c2', c3', by go_num, by omega, h⟩
                  case measure => simp [intOf]; omega
        · go_simp
          refine hK.out _ _ (h.alloc _).cells (fun hHeld => ?_)
          clear hK K
          try simp only [Act.put, List.setIfInBounds_toArray, List.set_cons_zero, List.set_cons_succ]
          have b2 := h.box 1
          have b1 := b1.alloc (.cells #[.int .i64 1] 3)
          have h := h.alloc (.cells #[.int .i64 1] 3)
          generalize W1.alloc (.cells #[.int .i64 1] 3) = W23 at *
          generalize W1.heap.size = B23 at *
          refine wpAnyC_ready (rs := [9, 21]) (by kernel_rfl) (by kernel_rfl) (by simp) ?_
          refine AllC.cons (o := _) (List.getElem?_toArray.trans rfl) (fun K hK => ?_) (AllC.cons (o := _) (List.getElem?_toArray.trans rfl) (fun K hK => ?_) (AllC.nil))
          · refine app_row_step (w0 := w) w.heap.size (by rfl) (.tmp 25) (.tmp 27) (by rfl) (.slice AU i cU) _ (rngL i) [(i : Int)] (by rfl) (by rfl) h.u b1.rd h.bel h.bel.size (by rw [rng_len]; simp; omega) ?_
            intro v1 W24 H1 HB hg hat
            rw [rng_snoc] at H1
            have b2 := b2.appU hg hat
            have h := h.appU H1 HB hg hat
            obtain ⟨A1', c1', rfl, _, _⟩ := H1.rd
            rw [rng_len] at h b2
            rw [rng_len]
            refine hK.out _ _ h.cells (fun hHeld => ?_)
            clear hK K H1 HB hg hat
            try simp only [Act.put, List.setIfInBounds_toArray, List.set_cons_zero, List.set_cons_succ]
            refine wpAnyC_ready (rs := [15, 21]) (by kernel_rfl) (by kernel_rfl) (by simp) ?_
            refine AllC.cons (o := _) (List.getElem?_toArray.trans rfl) (fun K hK => ?_) (AllC.cons (o := _) (List.getElem?_toArray.trans rfl) (fun K hK => ?_) (AllC.nil))
            · refine app_row_step (w0 := w) w.heap.size (by rfl) (.tmp 32) (.tmp 33) (by rfl) (.slice AS i cS) _ (oneL i) [1] (by rfl) (by rfl) h.s b2.rd h.bel h.bel.size (by rw [one_len]; simp; omega) ?_
              intro v2 W25 H1 HB hg hat
              rw [one_snoc] at H1
              have h := h.appS H1 HB hg hat
              obtain ⟨A2', c2', rfl, _, _⟩ := H1.rd
              rw [one_len] at h
              rw [one_len]
              refine hK.out _ _ h.cells (fun hHeld => ?_)
              clear hK K H1 HB hg hat
              try simp only [Act.put, List.setIfInBounds_toArray, List.set_cons_zero, List.set_cons_succ]
              refine wpAnyC_ready (rs := [21]) (by kernel_rfl) (by kernel_rfl) (by simp) ?_
              refine AllC.cons (o := _) (List.getElem?_toArray.trans rfl) (fun K hK => ?_) (AllC.nil)
              · go_simp
                refine hK.out _ _ (h.alloc _).cells (fun hHeld => ?_)
                clear hK K
                try simp only [Act.put, List.setIfInBounds_toArray, List.set_cons_zero, List.set_cons_succ]
                have b3 := h.box (i : Int)
                have b1 := b1.alloc (.cells #[.int .i64 (i : Int)] 3)
                have b2 := b2.alloc (.cells #[.int .i64 (i : Int)] 3)
                have h := h.alloc (.cells #[.int .i64 (i : Int)] 3)
                generalize W25.alloc (.cells #[.int .i64 (i : Int)] 3) = W26 at *
                generalize W25.heap.size = B26 at *
                refine wpAnyC_ready (rs := [22]) (by kernel_rfl) (by kernel_rfl) (by simp) ?_
                refine AllC.cons (o := _) (List.getElem?_toArray.trans rfl) (fun K hK => ?_) (AllC.nil)
                · refine app_row_step (w0 := w) w.heap.size (by rfl) (.tmp 38) (.tmp 40) (by rfl) (.slice AH i cH) _ (rngL i) [(i : Int)] (by rfl) (by rfl) h.h b3.rd h.bel h.bel.size (by rw [rng_len]; simp; omega) ?_
                  intro v3 W27 H1 HB hg hat
                  rw [rng_snoc] at H1
                  have h := h.appH H1 HB hg hat
                  obtain ⟨A3', c3', rfl, _, _⟩ := H1.rd
                  rw [rng_len] at h
                  rw [rng_len]
                  refine hK.out _ _ h.cells (fun hHeld => ?_)
                  clear hK K H1 HB hg hat
                  try simp only [Act.put, List.setIfInBounds_toArray, List.set_cons_zero, List.set_cons_succ]
                  refine wpAnyC_cut (by kernel_rfl) ?_
                  refine wpAny_of_held (S := fun _ => True) _ _ _ _ ?_
                  have hT : (fun _ : World => True) W27 := trivial
                  refine wpAnyH_take (i := 23) (oi := _) (v := ?_) (List.getElem?_toArray.trans rfl) (by kernel_rfl) (by kernel_rfl) (by kernel_rfl) (fun _ _ _ h => h) (Or.inl ⟨by rfl, ?_⟩) trivial ?_
                  rotate_left
                  · intro w hSw; (try dsimp only at hSw); go_simp <;> with_reducible rfl
                  try simp only [Act.put, List.setIfInBounds_toArray, List.set_cons_zero, List.set_cons_succ]
                  refine wpAnyH_take (i := 24) (oi := _) (v := ?_) (List.getElem?_toArray.trans rfl) (by kernel_rfl) (by kernel_rfl) (by kernel_rfl) (fun _ _ _ h => h) (Or.inl ⟨by rfl, ?_⟩) trivial ?_
                  rotate_left
                  · intro w hSw; (try dsimp only at hSw); go_simp <;> with_reducible rfl
                  try simp only [Act.put, List.setIfInBounds_toArray, List.set_cons_zero, List.set_cons_succ]
                  have e0 := blk_cell h.blk 0
                  have z0 := blk_frozen h.blk 0
                  refine wpAnyH_ready (rs := [25]) (by kernel_rfl) (by simp) ?_
                  refine AllReadyH.cons (o := _) (List.getElem?_toArray.trans rfl) (fun K hK => ?_) AllReadyH.nil
                  go_simp
                  refine hK.out _ _ trivial (fun hHeld => ?_)
                  clear hK K e0 z0
                  try simp only [Act.put, List.setIfInBounds_toArray, List.set_cons_zero, List.set_cons_succ]
                  have h := h.set 0 (.slice A1' (i + 1) c1') rfl
                  generalize W27.setCell ⟨w.heap.size, 0, none⟩ (.slice A1' (i + 1) c1') = W28 at *
                  refine wpAnyH_take (i := 26) (oi := _) (v := ?_) (List.getElem?_toArray.trans rfl) (by kernel_rfl) (by kernel_rfl) (by kernel_rfl) (fun _ _ _ h => h) (Or.inl ⟨by rfl, ?_⟩) trivial ?_
                  rotate_left
                  · intro w hSw; (try dsimp only at hSw); go_simp <;> with_reducible rfl
                  try simp only [Act.put, List.setIfInBounds_toArray, List.set_cons_zero, List.set_cons_succ]
                  refine wpAnyH_take (i := 27) (oi := _) (v := ?_) (List.getElem?_toArray.trans rfl) (by kernel_rfl) (by kernel_rfl) (by kernel_rfl) (fun _ _ _ h => h) (Or.inl ⟨by rfl, ?_⟩) trivial ?_
                  rotate_left
                  · intro w hSw; (try dsimp only at hSw); go_simp <;> with_reducible rfl
                  try simp only [Act.put, List.setIfInBounds_toArray, List.set_cons_zero, List.set_cons_succ]
                  have e1 := blk_cell h.blk 1
                  have z1 := blk_frozen h.blk 1
                  refine wpAnyH_ready (rs := [28]) (by kernel_rfl) (by simp) ?_
                  refine AllReadyH.cons (o := _) (List.getElem?_toArray.trans rfl) (fun K hK => ?_) AllReadyH.nil
                  go_simp
                  refine hK.out _ _ trivial (fun hHeld => ?_)
                  clear hK K e1 z1
                  try simp only [Act.put, List.setIfInBounds_toArray, List.set_cons_zero, List.set_cons_succ]
                  have h := h.set 1 (.slice A2' (i + 1) c2') rfl
                  generalize W28.setCell ⟨w.heap.size, 1, none⟩ (.slice A2' (i + 1) c2') = W29 at *
                  refine wpAnyH_take (i := 29) (oi := _) (v := ?_) (List.getElem?_toArray.trans rfl) (by kernel_rfl) (by kernel_rfl) (by kernel_rfl) (fun _ _ _ h => h) (Or.inl ⟨by rfl, ?_⟩) trivial ?_
                  rotate_left
                  · intro w hSw; (try dsimp only at hSw); go_simp <;> with_reducible rfl
                  try simp only [Act.put, List.setIfInBounds_toArray, List.set_cons_zero, List.set_cons_succ]
                  refine wpAnyH_take (i := 30) (oi := _) (v := ?_) (List.getElem?_toArray.trans rfl) (by kernel_rfl) (by kernel_rfl) (by kernel_rfl) (fun _ _ _ h => h) (Or.inl ⟨by rfl, ?_⟩) trivial ?_
                  rotate_left
                  · intro w hSw; (try dsimp only at hSw); go_simp <;> with_reducible rfl
                  try simp only [Act.put, List.setIfInBounds_toArray, List.set_cons_zero, List.set_cons_succ]
                  have e2 := blk_cell h.blk 2
                  have z2 := blk_frozen h.blk 2
                  refine wpAnyH_ready (rs := [31]) (by kernel_rfl) (by simp) ?_
                  refine AllReadyH.cons (o := _) (List.getElem?_toArray.trans rfl) (fun K hK => ?_) AllReadyH.nil
                  go_simp
                  refine hK.out _ _ trivial (fun hHeld => ?_)
                  clear hK K e2 z2
                  try simp only [Act.put, List.setIfInBounds_toArray, List.set_cons_zero, List.set_cons_succ]
                  have h := h.set 2 (.slice A3' (i + 1) c3') rfl
                  generalize W29.setCell ⟨w.heap.size, 2, none⟩ (.slice A3' (i + 1) c3') = W30 at *
                  refine wpAnyH_done (by kernel_rfl) ?_ _
                  go_wp2_with fail
                  go_roundw
                  case rel => exact ⟨i + 1, A1', A2', A3', c1', c2', c3', by go_num, by omega, h⟩
                  case measure => simp [intOf]; omega
            · go_simp
              refine hK.out _ _ (h.alloc _).cells (fun hHeld => ?_)
              clear hK K
              try simp only [Act.put, List.setIfInBounds_toArray, List.set_cons_zero, List.set_cons_succ]
              have b3 := h.box (i : Int)
              have b1 := b1.alloc (.cells #[.int .i64 (i : Int)] 3)
              have b2 := b2.alloc (.cells #[.int .i64 (i : Int)] 3)
              have h := h.alloc (.cells #[.int .i64 (i : Int)] 3)
              generalize W24.alloc (.cells #[.int .i64 (i : Int)] 3) = W31 at *
              generalize W24.heap.size = B31 at *
              refine wpAnyC_ready (rs := [15]) (by kernel_rfl) (by kernel_rfl) (by simp) ?_
              refine AllC.cons (o := _) (List.getElem?_toArray.trans rfl) (fun K hK => ?_) (AllC.nil)
              · refine app_row_step (w0 := w) w.heap.size (by rfl) (.tmp 32) (.tmp 33) (by rfl) (.slice AS i cS) _ (oneL i) [1] (by rfl) (by rfl) h.s b2.rd h.bel h.bel.size (by rw [one_len]; simp; omega) ?_
                intro v2 W32 H1 HB hg hat
                rw [one_snoc] at H1
                have b3 := b3.appS hg hat
                have h := h.appS H1 HB hg hat
                obtain ⟨A2', c2', rfl, _, _⟩ := H1.rd
                rw [one_len] at h b3
                rw [one_len]
                refine hK.out _ _ h.cells (fun hHeld => ?_)
                clear hK K H1 HB hg hat
                try simp only [Act.put, List.setIfInBounds_toArray, List.set_cons_zero, List.set_cons_succ]
                refine wpAnyC_ready (rs := [22]) (by kernel_rfl) (by kernel_rfl) (by simp) ?_
                refine AllC.cons (o := _) (List.getElem?_toArray.trans rfl) (fun K hK => ?_) (AllC.nil)
                · refine app_row_step (w0 := w) w.heap.size (by rfl) (.tmp 38) (.tmp 40) (by rfl) (.slice AH i cH) _ (rngL i) [(i : Int)] (by rfl) (by rfl) h.h b3.rd h.bel h.bel.size (by rw [rng_len]; simp; omega) ?_
                  intro v3 W33 H1 HB hg hat
                  rw [rng_snoc] at H1
                  have h := h.appH H1 HB hg hat
                  obtain ⟨A3', c3', rfl, _, _⟩ := H1.rd
                  rw [rng_len] at h
                  rw [rng_len]
                  refine hK.out _ _ h.cells (fun hHeld => ?_)
                  clear hK K H1 HB hg hat
                  try simp only [Act.put, List.setIfInBounds_toArray, List.set_cons_zero, List.set_cons_succ]
                  refine wpAnyC_cut (by kernel_rfl) ?_
                  refine wpAny_of_held (S := fun _ => True) _ _ _ _ ?_
                  have hT : (fun _ : World => True) W33 := trivial
                  refine wpAnyH_take (i := 23) (oi := _) (v := ?_) (List.getElem?_toArray.trans rfl) (by kernel_rfl) (by kernel_rfl) (by kernel_rfl) (fun _ _ _ h => h) (Or.inl ⟨by rfl, ?_⟩) trivial ?_
                  rotate_left
                  · intro w hSw; (try dsimp only at hSw); go_simp <;> with_reducible rfl
                  try simp only [Act.put, List.setIfInBounds_toArray, List.set_cons_zero, List.set_cons_succ]
                  refine wpAnyH_take (i := 24) (oi := _) (v := ?_) (List.getElem?_toArray.trans rfl) (by kernel_rfl) (by kernel_rfl) (by kernel_rfl) (fun _ _ _ h => h) (Or.inl ⟨by rfl, ?_⟩) trivial ?_
                  rotate_left
                  · intro w hSw; (try dsimp only at hSw); go_simp <;> with_reducible rfl
                  try simp only [Act.put, List.setIfInBounds_toArray, List.set_cons_zero, List.set_cons_succ]
                  have e0 := blk_cell h.blk 0
                  have z0 := blk_frozen h.blk 0
                  refine wpAnyH_ready (rs := [25]) (by kernel_rfl) (by simp) ?_
                  refine AllReadyH.cons (o := _) (List.getElem?_toArray.trans rfl) (fun K hK => ?_) AllReadyH.nil
                  go_simp
                  refine hK.out _ _ trivial (fun hHeld => ?_)
                  clear hK K e0 z0
                  try simp only [Act.put, List.setIfInBounds_toArray, List.set_cons_zero, List.set_cons_succ]
                  have h := h.set 0 (.slice A1' (i + 1) c1') rfl
                  generalize W33.setCell ⟨w.heap.size, 0, none⟩ (.slice A1' (i + 1) c1') = W34 at *
                  refine wpAnyH_take (i := 26) (oi := _) (v := ?_) (List.getElem?_toArray.trans rfl) (by kernel_rfl) (by kernel_rfl) (by kernel_rfl) (fun _ _ _ h => h) (Or.inl ⟨by rfl, ?_⟩) trivial ?_
                  rotate_left
                  · intro w hSw; (try dsimp only at hSw); go_simp <;> with_reducible rfl
                  try simp only [Act.put, List.setIfInBounds_toArray, List.set_cons_zero, List.set_cons_succ]
                  refine wpAnyH_take (i := 27) (oi := _) (v := ?_) (List.getElem?_toArray.trans rfl) (by kernel_rfl) (by kernel_rfl) (by kernel_rfl) (fun _ _ _ h => h) (Or.inl ⟨by rfl, ?_⟩) trivial ?_
                  rotate_left
                  · intro w hSw; (try dsimp only at hSw); go_simp <;> with_reducible rfl
                  try simp only [Act.put, List.setIfInBounds_toArray, List.set_cons_zero, List.set_cons_succ]
                  have e1 := blk_cell h.blk 1
                  have z1 := blk_frozen h.blk 1
                  refine wpAnyH_ready (rs := [28]) (by kernel_rfl) (by simp) ?_
                  refine AllReadyH.cons (o := _) (List.getElem?_toArray.trans rfl) (fun K hK => ?_) AllReadyH.nil
                  go_simp
                  refine hK.out _ _ trivial (fun hHeld => ?_)
                  clear hK K e1 z1
                  try simp only [Act.put, List.setIfInBounds_toArray, List.set_cons_zero, List.set_cons_succ]
                  have h := h.set 1 (.slice A2' (i + 1) c2') rfl
                  generalize W34.setCell ⟨w.heap.size, 1, none⟩ (.slice A2' (i + 1) c2') = W35 at *
                  refine wpAnyH_take (i := 29) (oi := _) (v := ?_) (List.getElem?_toArray.trans rfl) (by kernel_rfl) (by kernel_rfl) (by kernel_rfl) (fun _ _ _ h => h) (Or.inl ⟨by rfl, ?_⟩) trivial ?_
                  rotate_left
                  · intro w hSw; (try dsimp only at hSw); go_simp <;> with_reducible rfl
                  try simp only [Act.put, List.setIfInBounds_toArray, List.set_cons_zero, List.set_cons_succ]
                  refine wpAnyH_take (i := 30) (oi := _) (v := ?_) (List.getElem?_toArray.trans rfl) (by kernel_rfl) (by kernel_rfl) (by kernel_rfl) (fun _ _ _ h => h) (Or.inl ⟨by rfl, ?_⟩) trivial ?_
                  rotate_left
                  · intro w hSw; (try dsimp only at hSw); go_simp <;> with_reducible rfl
                  try simp only [Act.put, List.setIfInBounds_toArray, List.set_cons_zero, List.set_cons_succ]
                  have e2 := blk_cell h.blk 2
                  have z2 := blk_frozen h.blk 2
                  refine wpAnyH_ready (rs := [31]) (by kernel_rfl) (by simp) ?_
                  refine AllReadyH.cons (o := _) (List.getElem?_toArray.trans rfl) (fun K hK => ?_) AllReadyH.nil
                  go_simp
                  refine hK.out _ _ trivial (fun hHeld => ?_)
                  clear hK K e2 z2
                  try simp only [Act.put, List.setIfInBounds_toArray, List.set_cons_zero, List.set_cons_succ]
                  have h := h.set 2 (.slice A3' (i + 1) c3') rfl
                  generalize W35.setCell ⟨w.heap.size, 2, none⟩ (.slice A3' (i + 1) c3') = W36 at *
                  refine wpAnyH_done (by kernel_rfl) ?_ _
                  go_wp2_with fail
                  go_roundw
                  case rel => exact ⟨i + 1, A1', A2', A3', c1', c2', c3', by go_num, by omega, h⟩
                  case measure => simp [intOf]; omega
          · go_simp
            refine hK.out _ _ (h.alloc _).cells (fun hHeld => ?_)
            clear hK K
            try simp only [Act.put, List.setIfInBounds_toArray, List.set_cons_zero, List.set_cons_succ]
            have b3 := h.box (i : Int)
            have b1 := b1.alloc (.cells #[.int .i64 (i : Int)] 3)
            have b2 := b2.alloc (.cells #[.int .i64 (i : Int)] 3)
            have h := h.alloc (.cells #[.int .i64 (i : Int)] 3)
            generalize W23.alloc (.cells #[.int .i64 (i : Int)] 3) = W37 at *
            generalize W23.heap.size = B37 at *
            refine wpAnyC_ready (rs := [9]) (by kernel_rfl) (by kernel_rfl) (by simp) ?_
            refine AllC.cons (o := _) (List.getElem?_toArray.trans rfl) (fun K hK => ?_) (AllC.nil)
            · refine app_row_step (w0 := w) w.heap.size (by rfl) (.tmp 25) (.tmp 27) (by rfl) (.slice AU i cU) _ (rngL i) [(i : Int)] (by rfl) (by rfl) h.u b1.rd h.bel h.bel.size (by rw [rng_len]; simp; omega) ?_
              intro v1 W38 H1 HB hg hat
              rw [rng_snoc] at H1
              have b2 := b2.appU hg hat
              have b3 := b3.appU hg hat
              have h := h.appU H1 HB hg hat
              obtain ⟨A1', c1', rfl, _, _⟩ := H1.rd
              rw [rng_len] at h b2 b3
              rw [rng_len]
              refine hK.out _ _ h.cells (fun hHeld => ?_)
              clear hK K H1 HB hg hat
              try simp only [Act.put, List.setIfInBounds_toArray, List.set_cons_zero, List.set_cons_succ]
              refine wpAnyC_ready (rs := [15]) (by kernel_rfl) (by kernel_rfl) (by simp) ?_
              refine AllC.cons (o := _) (List.getElem?_toArray.trans rfl) (fun K hK => ?_) (AllC.nil)
              · refine app_row_step (w0 := w) w.heap.size (by rfl) (.tmp 32) (.tmp 33) (by rfl) (.slice AS i cS) _ (oneL i) [1] (by rfl) (by rfl) h.s b2.rd h.bel h.bel.size (by rw [one_len]; simp; omega) ?_
                intro v2 W39 H1 HB hg hat
                rw [one_snoc] at H1
                have b3 := b3.appS hg hat
                have h := h.appS H1 HB hg hat
                obtain ⟨A2', c2', rfl, _, _⟩ := H1.rd
                rw [one_len] at h b3
                rw [one_len]
                refine hK.out _ _ h.cells (fun hHeld => ?_)
                clear hK K H1 HB hg hat
                try simp only [Act.put, List.setIfInBounds_toArray, List.set_cons_zero, List.set_cons_succ]
                refine wpAnyC_ready (rs := [22]) (by kernel_rfl) (by kernel_rfl) (by simp) ?_
                refine AllC.cons (o := _) (List.getElem?_toArray.trans rfl) (fun K hK => ?_) (AllC.nil)
                · refine app_row_step (w0 := w) w.heap.size (by rfl) (.tmp 38) (.tmp 40) (by rfl) (.slice AH i cH) _ (rngL i) [(i : Int)] (by rfl) (by rfl) h.h b3.rd h.bel h.bel.size (by rw [rng_len]; simp; omega) ?_
                  intro v3 W40 H1 HB hg hat
                  rw [rng_snoc] at H1
                  have h := h.appH H1 HB hg hat
                  obtain ⟨A3', c3', rfl, _, _⟩ := H1.rd
                  rw [rng_len] at h
                  rw [rng_len]
                  refine hK.out _ _ h.cells (fun hHeld => ?_)
                  clear hK K H1 HB hg hat
                  try simp only [Act.put, List.setIfInBounds_toArray, List.set_cons_zero, List.set_cons_succ]
                  refine wpAnyC_cut (by kernel_rfl) ?_
                  refine wpAny_of_held (S := fun _ => True) _ _ _ _ ?_
                  have hT : (fun _ : World => True) W40 := trivial
                  refine wpAnyH_take (i := 23) (oi := _) (v := ?_) (List.getElem?_toArray.trans rfl) (by kernel_rfl) (by kernel_rfl) (by kernel_rfl) (fun _ _ _ h => h) (Or.inl ⟨by rfl, ?_⟩) trivial ?_
                  rotate_left
                  · intro w hSw; (try dsimp only at hSw); go_simp <;> with_reducible rfl
                  try simp only [Act.put, List.setIfInBounds_toArray, List.set_cons_zero, List.set_cons_succ]
                  refine wpAnyH_take (i := 24) (oi := _) (v := ?_) (List.getElem?_toArray.trans rfl) (by kernel_rfl) (by kernel_rfl) (by kernel_rfl) (fun _ _ _ h => h) (Or.inl ⟨by rfl, ?_⟩) trivial ?_
                  rotate_left
                  · intro w hSw; (try dsimp only at hSw); go_simp <;> with_reducible rfl
                  try simp only [Act.put, List.setIfInBounds_toArray, List.set_cons_zero, List.set_cons_succ]
                  have e0 := blk_cell h.blk 0
                  have z0 := blk_frozen h.blk 0
                  refine wpAnyH_ready (rs := [25]) (by kernel_rfl) (by simp) ?_
                  refine AllReadyH.cons (o := _) (List.getElem?_toArray.trans rfl) (fun K hK => ?_) AllReadyH.nil
                  go_simp
                  refine hK.out _ _ trivial (fun hHeld => ?_)
                  clear hK K e0 z0
                  try simp only [Act.put, List.setIfInBounds_toArray, List.set_cons_zero, List.set_cons_succ]
                  have h := h.set 0 (.slice A1' (i + 1) c1') rfl
                  generalize W40.setCell ⟨w.heap.size, 0, none⟩ (.slice A1' (i + 1) c1') = W41 at *
                  refine wpAnyH_take (i := 26) (oi := _) (v := ?_) (List.getElem?_toArray.trans rfl) (by kernel_rfl) (by kernel_rfl) (by kernel_rfl) (fun _ _ _ h => h) (Or.inl ⟨by rfl, ?_⟩) trivial ?_
                  rotate_left
                  · intro w hSw; (try dsimp only at hSw); go_simp <;> with_reducible rfl
                  try simp only [Act.put, List.setIfInBounds_toArray, List.set_cons_zero, List.set_cons_succ]
                  refine wpAnyH_take (i := 27) (oi := _) (v := ?_) (List.getElem?_toArray.trans rfl) (by kernel_rfl) (by kernel_rfl) (by kernel_rfl) (fun _ _ _ h => h) (Or.inl ⟨by rfl, ?_⟩) trivial ?_
                  rotate_left
                  · intro w hSw; (try dsimp only at hSw); go_simp <;> with_reducible rfl
                  try simp only [Act.put, List.setIfInBounds_toArray, List.set_cons_zero, List.set_cons_succ]
                  have e1 := blk_cell h.blk 1
                  have z1 := blk_frozen h.blk 1
                  refine wpAnyH_ready (rs := [28]) (by kernel_rfl) (by simp) ?_
                  refine AllReadyH.cons (o := _) (List.getElem?_toArray.trans rfl) (fun K hK => ?_) AllReadyH.nil
                  go_simp
                  refine hK.out _ _ trivial (fun hHeld => ?_)
                  clear hK K e1 z1
                  try simp only [Act.put, List.setIfInBounds_toArray, List.set_cons_zero, List.set_cons_succ]
                  have h := h.set 1 (.slice A2' (i + 1) c2') rfl
                  generalize W41.setCell ⟨w.heap.size, 1, none⟩ (.slice A2' (i + 1) c2') = W42 at *
                  refine wpAnyH_take (i := 29) (oi := _) (v := ?_) (List.getElem?_toArray.trans rfl) (by kernel_rfl) (by kernel_rfl) (by kernel_rfl) (fun _ _ _ h => h) (Or.inl ⟨by rfl, ?_⟩) trivial ?_
                  rotate_left
                  · intro w hSw; (try dsimp only at hSw); go_simp <;> with_reducible rfl
                  try simp only [Act.put, List.setIfInBounds_toArray, List.set_cons_zero, List.set_cons_succ]
                  refine wpAnyH_take (i := 30) (oi := _) (v := ?_) (List.getElem?_toArray.trans rfl) (by kernel_rfl) (by kernel_rfl) (by kernel_rfl) (fun _ _ _ h => h) (Or.inl ⟨by rfl, ?_⟩) trivial ?_
                  rotate_left
                  · intro w hSw; (try dsimp only at hSw); go_simp <;> with_reducible rfl
                  try simp only [Act.put, List.setIfInBounds_toArray, List.set_cons_zero, List.set_cons_succ]
                  have e2 := blk_cell h.blk 2
                  have z2 := blk_frozen h.blk 2
                  refine wpAnyH_ready (rs := [31]) (by kernel_rfl) (by simp) ?_
                  refine AllReadyH.cons (o := _) (List.getElem?_toArray.trans rfl) (fun K hK => ?_) AllReadyH.nil
                  go_simp
                  refine hK.out _ _ trivial (fun hHeld => ?_)
                  clear hK K e2 z2
                  try simp only [Act.put, List.setIfInBounds_toArray, List.set_cons_zero, List.set_cons_succ]
                  have h := h.set 2 (.slice A3' (i + 1) c3') rfl
                  generalize W42.setCell ⟨w.heap.size, 2, none⟩ (.slice A3' (i + 1) c3') = W43 at *
                  refine wpAnyH_done (by kernel_rfl) ?_ _
                  go_wp2_with fail
                  go_roundw
                  case rel => exact ⟨i + 1, A1', A2', A3', c1', c2', c3', by go_num, by omega, h⟩
                  case measure => simp [intOf]; omega
        · go_simp
          refine hK.out _ _ (h.alloc _).cells (fun hHeld => ?_)
          clear hK K
          try simp only [Act.put, List.setIfInBounds_toArray, List.set_cons_zero, List.set_cons_succ]
          have b3 := h.box (i : Int)
          have b1 := b1.alloc (.cells #[.int .i64 (i : Int)] 3)
          have h := h.alloc (.cells #[.int .i64 (i : Int)] 3)
          generalize W1.alloc (.cells #[.int .i64 (i : Int)] 3) = W44 at *
          generalize W1.heap.size = B44 at *
          refine wpAnyC_ready (rs := [9, 14]) (by kernel_rfl) (by kernel_rfl) (by simp) ?_
          refine AllC.cons (o := _) (List.getElem?_toArray.trans rfl) (fun K hK => ?_) (AllC.cons (o := _) (List.getElem?_toArray.trans rfl) (fun K hK => ?_) (AllC.nil))
          · refine app_row_step (w0 := w) w.heap.size (by rfl) (.tmp 25) (.tmp 27) (by rfl) (.slice AU i cU) _ (rngL i) [(i : Int)] (by rfl) (by rfl) h.u b1.rd h.bel h.bel.size (by rw [rng_len]; simp; omega) ?_
            intro v1 W45 H1 HB hg hat
            rw [rng_snoc] at H1
            have b3 := b3.appU hg hat
            have h := h.appU H1 HB hg hat
            obtain ⟨A1', c1', rfl, _, _⟩ := H1.rd
            rw [rng_len] at h b3
            rw [rng_len]
            refine hK.out _ _ h.cells (fun hHeld => ?_)
            clear hK K H1 HB hg hat
            try simp only [Act.put, List.setIfInBounds_toArray, List.set_cons_zero, List.set_cons_succ]
            refine wpAnyC_ready (rs := [14]) (by kernel_rfl) (by kernel_rfl) (by simp) ?_
            refine AllC.cons (o := _) (List.getElem?_toArray.trans rfl) (fun K hK => ?_) (AllC.nil)
            · go_simp
              refine hK.out _ _ (h.alloc _).cells (fun hHeld => ?_)
              clear hK K
              try simp only [Act.put, List.setIfInBounds_toArray, List.set_cons_zero, List.set_cons_succ]
              have b2 := h.box 1
              have b1 := b1.alloc (.cells #[.int .i64 1] 3)
              have b3 := b3.alloc (.cells #[.int .i64 1] 3)
              have h := h.alloc (.cells #[.int .i64 1] 3)
              generalize W45.alloc (.cells #[.int .i64 1] 3) = W46 at *
              generalize W45.heap.size = B46 at *
              refine wpAnyC_ready (rs := [15]) (by kernel_rfl) (by kernel_rfl) (by simp) ?_
              refine AllC.cons (o := _) (List.getElem?_toArray.trans rfl) (fun K hK => ?_) (AllC.nil)
              · refine app_row_step (w0 := w) w.heap.size (by rfl) (.tmp 32) (.tmp 33) (by rfl) (.slice AS i cS) _ (oneL i) [1] (by rfl) (by rfl) h.s b2.rd h.bel h.bel.size (by rw [one_len]; simp; omega) ?_
                intro v2 W47 H1 HB hg hat
                rw [one_snoc] at H1
                have b3 := b3.appS hg hat
                have h := h.appS H1 HB hg hat
                obtain ⟨A2', c2', rfl, _, _⟩ := H1.rd
                rw [one_len] at h b3
                rw [one_len]
                refine hK.out _ _ h.cells (fun hHeld => ?_)
                clear hK K H1 HB hg hat
                try simp only [Act.put, List.setIfInBounds_toArray, List.set_cons_zero, List.set_cons_succ]
                refine wpAnyC_ready (rs := [22]) (by kernel_rfl) (by kernel_rfl) (by simp) ?_
                refine AllC.cons (o := _) (List.getElem?_toArray.trans rfl) (fun K hK => ?_) (AllC.nil)
                · refine app_row_step (w0 := w) w.heap.size (by rfl) (.tmp 38) (.tmp 40) (by rfl) (.slice AH i cH) _ (rngL i) [(i : Int)] (by rfl) (by rfl) h.h b3.rd h.bel h.bel.size (by rw [rng_len]; simp; omega) ?_
                  intro v3 W48 H1 HB hg hat
                  rw [rng_snoc] at H1
                  have h := h.appH H1 HB hg hat
                  obtain ⟨A3', c3', rfl, _, _⟩ := H1.rd
                  rw [rng_len] at h
                  rw [rng_len]
                  refine hK.out _ _ h.cells (fun hHeld => ?_)
                  clear hK K H1 HB hg hat
                  try simp only [Act.put, List.setIfInBounds_toArray, List.set_cons_zero, List.set_cons_succ]
                  refine wpAnyC_cut (by kernel_rfl) ?_
                  refine wpAny_of_held (S := fun _ => True) _ _ _ _ ?_
                  have hT : (fun _ : World => True) W48 := trivial
                  refine wpAnyH_take (i := 23) (oi := _) (v := ?_) (List.getElem?_toArray.trans rfl) (by kernel_rfl) (by kernel_rfl) (by kernel_rfl) (fun _ _ _ h => h) (Or.inl ⟨by rfl, ?_⟩) trivial ?_
                  rotate_left
                  · intro w hSw; (try dsimp only at hSw); go_simp <;> with_reducible rfl
                  try simp only [Act.put, List.setIfInBounds_toArray, List.set_cons_zero, List.set_cons_succ]
                  refine wpAnyH_take (i := 24) (oi := _) (v := ?_) (List.getElem?_toArray.trans rfl) (by kernel_rfl) (by kernel_rfl) (by kernel_rfl) (fun _ _ _ h => h) (Or.inl ⟨by rfl, ?_⟩) trivial ?_
                  rotate_left
                  · intro w hSw; (try dsimp only at hSw); go_simp <;> with_reducible rfl
                  try simp only [Act.put, List.setIfInBounds_toArray, List.set_cons_zero, List.set_cons_succ]
                  have e0 := blk_cell h.blk 0
                  have z0 := blk_frozen h.blk 0
                  refine wpAnyH_ready (rs := [25]) (by kernel_rfl) (by simp) ?_
                  refine AllReadyH.cons (o := _) (List.getElem?_toArray.trans rfl) (fun K hK => ?_) AllReadyH.nil
                  go_simp
                  refine hK.out _ _ trivial (fun hHeld => ?_)
                  clear hK K e0 z0
                  try simp only [Act.put, List.setIfInBounds_toArray, List.set_cons_zero, List.set_cons_succ]
                  have h := h.set 0 (.slice A1' (i + 1) c1') rfl
                  generalize W48.setCell ⟨w.heap.size, 0, none⟩ (.slice A1' (i + 1) c1') = W49 at *
                  refine wpAnyH_take (i := 26) (oi := _) (v := ?_) (List.getElem?_toArray.trans rfl) (by kernel_rfl) (by kernel_rfl) (by kernel_rfl) (fun _ _ _ h => h) (Or.inl ⟨by rfl, ?_⟩) trivial ?_
                  rotate_left
                  · intro w hSw; (try dsimp only at hSw); go_simp <;> with_reducible rfl
                  try simp only [Act.put, List.setIfInBounds_toArray, List.set_cons_zero, List.set_cons_succ]
                  refine wpAnyH_take (i := 27) (oi := _) (v := ?_) (List.getElem?_toArray.trans rfl) (by kernel_rfl) (by kernel_rfl) (by kernel_rfl) (fun _ _ _ h => h) (Or.inl ⟨by rfl, ?_⟩) trivial ?_
                  rotate_left
                  · intro w hSw; (try dsimp only at hSw); go_simp <;> with_reducible rfl
                  try simp only [Act.put, List.setIfInBounds_toArray, List.set_cons_zero, List.set_cons_succ]
                  have e1 := blk_cell h.blk 1
                  have z1 := blk_frozen h.blk 1
                  refine wpAnyH_ready (rs := [28]) (by kernel_rfl) (by simp) ?_
                  refine AllReadyH.cons (o := _) (List.getElem?_toArray.trans rfl) (fun K hK => ?_) AllReadyH.nil
                  go_simp
                  refine hK.out _ _ trivial (fun hHeld => ?_)
                  clear hK K e1 z1
                  try simp only [Act.put, List.setIfInBounds_toArray, List.set_cons_zero, List.set_cons_succ]
                  have h := h.set 1 (.slice A2' (i + 1) c2') rfl
                  generalize W49.setCell ⟨w.heap.size, 1, none⟩ (.slice A2' (i + 1) c2') = W50 at *
                  refine wpAnyH_take (i := 29) (oi := _) (v := ?_) (List.getElem?_toArray.trans rfl) (by kernel_rfl) (by kernel_rfl) (by kernel_rfl) (fun _ _ _ h => h) (Or.inl ⟨by rfl, ?_⟩) trivial ?_
                  rotate_left
                  · intro w hSw; (try dsimp only at hSw); go_simp <;> with_reducible rfl
                  try simp only [Act.put, List.setIfInBounds_toArray, List.set_cons_zero, List.set_cons_succ]
                  refine wpAnyH_take (i := 30) (oi := _) (v := ?_) (List.getElem?_toArray.trans rfl) (by kernel_rfl) (by kernel_rfl) (by kernel_rfl) (fun _ _ _ h => h) (Or.inl ⟨by rfl, ?_⟩) trivial ?_
                  rotate_left
                  · intro w hSw; (try dsimp only at hSw); go_simp <;> with_reducible rfl
                  try simp only [Act.put, List.setIfInBounds_toArray, List.set_cons_zero, List.set_cons_succ]
                  have e2 := blk_cell h.blk 2
                  have z2 := blk_frozen h.blk 2
                  refine wpAnyH_ready (rs := [31]) (by kernel_rfl) (by simp) ?_
                  refine AllReadyH.cons (o := _) (List.getElem?_toArray.trans rfl) (fun K hK => ?_) AllReadyH.nil
                  go_simp
                  refine hK.out _ _ trivial (fun hHeld => ?_)
                  clear hK K e2 z2
                  try simp only [Act.put, List.setIfInBounds_toArray, List.set_cons_zero, List.set_cons_succ]
                  have h := h.set 2 (.slice A3' (i + 1) c3') rfl
                  generalize W50.setCell ⟨w.heap.size, 2, none⟩ (.slice A3' (i + 1) c3') = W51 at *
                  refine wpAnyH_done (by kernel_rfl) ?_ _
                  go_wp2_with fail
                  go_roundw
                  case rel => exact ⟨i + 1, A1', A2', A3', c1', c2', c3', by go_num, by omega, h⟩
                  case measure => simp [intOf]; omega
          · go_simp
            refine hK.out _ _ (h.alloc _).cells (fun hHeld => ?_)
            clear hK K
            try simp only [Act.put, List.setIfInBounds_toArray, List.set_cons_zero, List.set_cons_succ]
            have b2 := h.box 1
            have b1 := b1.alloc (.cells #[.int .i64 1] 3)
            have b3 := b3.alloc (.cells #[.int .i64 1] 3)
            have h := h.alloc (.cells #[.int .i64 1] 3)
            generalize W44.alloc (.cells #[.int .i64 1] 3) = W52 at *
            generalize W44.heap.size = B52 at *
            refine wpAnyC_ready (rs := [9]) (by kernel_rfl) (by kernel_rfl) (by simp) ?_
            refine AllC.cons (o := _) (List.getElem?_toArray.trans rfl) (fun K hK => ?_) (AllC.nil)
            · refine app_row_step (w0 := w) w.heap.size (by rfl) (.tmp 25) (.tmp 27) (by rfl) (.slice AU i cU) _ (rngL i) [(i : Int)] (by rfl) (by rfl) h.u b1.rd h.bel h.bel.size (by rw [rng_len]; simp; omega) ?_
              intro v1 W53 H1 HB hg hat
              rw [rng_snoc] at H1
              have b2 := b2.appU hg hat
              have b3 := b3.appU hg hat
              have h := h.appU H1 HB hg hat
              obtain ⟨A1', c1', rfl, _, _⟩ := H1.rd
              rw [rng_len] at h b2 b3
              rw [rng_len]
              refine hK.out _ _ h.cells (fun hHeld => ?_)
              clear hK K H1 HB hg hat
              try simp only [Act.put, List.setIfInBounds_toArray, List.set_cons_zero, List.set_cons_succ]
              refine wpAnyC_ready (rs := [15]) (by kernel_rfl) (by kernel_rfl) (by simp) ?_
              refine AllC.cons (o := _) (List.getElem?_toArray.trans rfl) (fun K hK => ?_) (AllC.nil)
              · refine app_row_step (w0 := w) w.heap.size (by rfl) (.tmp 32) (.tmp 33) (by rfl) (.slice AS i cS) _ (oneL i) [1] (by rfl) (by rfl) h.s b2.rd h.bel h.bel.size (by rw [one_len]; simp; omega) ?_
                intro v2 W54 H1 HB hg hat
                rw [one_snoc] at H1
                have b3 := b3.appS hg hat
                have h := h.appS H1 HB hg hat
                obtain ⟨A2', c2', rfl, _, _⟩ := H1.rd
                rw [one_len] at h b3
                rw [one_len]
                refine hK.out _ _ h.cells (fun hHeld => ?_)
                clear hK K H1 HB hg hat
                try simp only [Act.put, List.setIfInBounds_toArray, List.set_cons_zero, List.set_cons_succ]
                refine wpAnyC_ready (rs := [22]) (by kernel_rfl) (by kernel_rfl) (by simp) ?_
                refine AllC.cons (o := _) (List.getElem?_toArray.trans rfl) (fun K hK => ?_) (AllC.nil)
                · refine app_row_step (w0 := w) w.heap.size (by rfl) (.tmp 38) (.tmp 40) (by rfl) (.slice AH i cH) _ (rngL i) [(i : Int)] (by rfl) (by rfl) h.h b3.rd h.bel h.bel.size (by rw [rng_len]; simp; omega) ?_
                  intro v3 W55 H1 HB hg hat
                  rw [rng_snoc] at H1
                  have h := h.appH H1 HB hg hat
                  obtain ⟨A3', c3', rfl, _, _⟩ := H1.rd
                  rw [rng_len] at h
                  rw [rng_len]
                  refine hK.out _ _ h.cells (fun hHeld => ?_)
                  clear hK K H1 HB hg hat
                  try simp only [Act.put, List.setIfInBounds_toArray, List.set_cons_zero, List.set_cons_succ]
                  refine wpAnyC_cut (by kernel_rfl) ?_
                  refine wpAny_of_held (S := fun _ => True) _ _ _ _ ?_
                  have hT : (fun _ : World => True) W55 := trivial
                  refine wpAnyH_take (i := 23) (oi := _) (v := ?_) (List.getElem?_toArray.trans rfl) (by kernel_rfl) (by kernel_rfl) (by kernel_rfl) (fun _ _ _ h => h) (Or.inl ⟨by rfl, ?_⟩) trivial ?_
                  rotate_left
                  · intro w hSw; (try dsimp only at hSw); go_simp <;> with_reducible rfl
                  try simp only [Act.put, List.setIfInBounds_toArray, List.set_cons_zero, List.set_cons_succ]
                  refine wpAnyH_take (i := 24) (oi := _) (v := ?_) (List.getElem?_toArray.trans rfl) (by kernel_rfl) (by kernel_rfl) (by kernel_rfl) (fun _ _ _ h => h) (Or.inl ⟨by rfl, ?_⟩) trivial ?_
                  rotate_left
                  · intro w hSw; (try dsimp only at hSw); go_simp <;> with_reducible rfl
                  try simp only [Act.put, List.setIfInBounds_toArray, List.set_cons_zero, List.set_cons_succ]
                  have e0 := blk_cell h.blk 0
                  have z0 := blk_frozen h.blk 0
                  refine wpAnyH_ready (rs := [25]) (by kernel_rfl) (by simp) ?_
                  refine AllReadyH.cons (o := _) (List.getElem?_toArray.trans rfl) (fun K hK => ?_) AllReadyH.nil
                  go_simp
                  refine hK.out _ _ trivial (fun hHeld => ?_)
                  clear hK K e0 z0
                  try simp only [Act.put, List.setIfInBounds_toArray, List.set_cons_zero, List.set_cons_succ]
                  have h := h.set 0 (.slice A1' (i + 1) c1') rfl
                  generalize W55.setCell ⟨w.heap.size, 0, none⟩ (.slice A1' (i + 1) c1') = W56 at *
                  refine wpAnyH_take (i := 26) (oi := _) (v := ?_) (List.getElem?_toArray.trans rfl) (by kernel_rfl) (by kernel_rfl) (by kernel_rfl) (fun _ _ _ h => h) (Or.inl ⟨by rfl, ?_⟩) trivial ?_
                  rotate_left
                  · intro w hSw; (try dsimp only at hSw); go_simp <;> with_reducible rfl
                  try simp only [Act.put, List.setIfInBounds_toArray, List.set_cons_zero, List.set_cons_succ]
                  refine wpAnyH_take (i := 27) (oi := _) (v := ?_) (List.getElem?_toArray.trans rfl) (by kernel_rfl) (by kernel_rfl) (by kernel_rfl) (fun _ _ _ h => h) (Or.inl ⟨by rfl, ?_⟩) trivial ?_
                  rotate_left
                  · intro w hSw; (try dsimp only at hSw); go_simp <;> with_reducible rfl
                  try simp only [Act.put, List.setIfInBounds_toArray, List.set_cons_zero, List.set_cons_succ]
                  have e1 := blk_cell h.blk 1
                  have z1 := blk_frozen h.blk 1
                  refine wpAnyH_ready (rs := [28]) (by kernel_rfl) (by simp) ?_
                  refine AllReadyH.cons (o := _) (List.getElem?_toArray.trans rfl) (fun K hK => ?_) AllReadyH.nil
                  go_simp
                  refine hK.out _ _ trivial (fun hHeld => ?_)
                  clear hK K e1 z1
                  try simp only [Act.put, List.setIfInBounds_toArray, List.set_cons_zero, List.set_cons_succ]
                  have h := h.set 1 (.slice A2' (i + 1) c2') rfl
                  generalize W56.setCell ⟨w.heap.size, 1, none⟩ (.slice A2' (i + 1) c2') = W57 at *
                  refine wpAnyH_take (i := 29) (oi := _) (v := ?_) (List.getElem?_toArray.trans rfl) (by kernel_rfl) (by kernel_rfl) (by kernel_rfl) (fun _ _ _ h => h) (Or.inl ⟨by rfl, ?_⟩) trivial ?_
                  rotate_left
                  · intro w hSw; (try dsimp only at hSw); go_simp <;> with_reducible rfl
                  try simp only [Act.put, List.setIfInBounds_toArray, List.set_cons_zero, List.set_cons_succ]
                  refine wpAnyH_take (i := 30) (oi := _) (v := ?_) (List.getElem?_toArray.trans rfl) (by kernel_rfl) (by kernel_rfl) (by kernel_rfl) (fun _ _ _ h => h) (Or.inl ⟨by rfl, ?_⟩) trivial ?_
                  rotate_left
                  · intro w hSw; (try dsimp only at hSw); go_simp <;> with_reducible rfl
                  try simp only [Act.put, List.setIfInBounds_toArray, List.set_cons_zero, List.set_cons_succ]
                  have e2 := blk_cell h.blk 2
                  have z2 := blk_frozen h.blk 2
                  refine wpAnyH_ready (rs := [31]) (by kernel_rfl) (by simp) ?_
                  refine AllReadyH.cons (o := _) (List.getElem?_toArray.trans rfl) (fun K hK => ?_) AllReadyH.nil
                  go_simp
                  refine hK.out _ _ trivial (fun hHeld => ?_)
                  clear hK K e2 z2
                  try simp only [Act.put, List.setIfInBounds_toArray, List.set_cons_zero, List.set_cons_succ]
                  have h := h.set 2 (.slice A3' (i + 1) c3') rfl
                  generalize W57.setCell ⟨w.heap.size, 2, none⟩ (.slice A3' (i + 1) c3') = W58 at *
                  refine wpAnyH_done (by kernel_rfl) ?_ _
                  go_wp2_with fail
                  go_roundw
                  case rel => exact ⟨i + 1, A1', A2', A3', c1', c2', c3', by go_num, by omega, h⟩
                  case measure => simp [intOf]; omega
      · go_simp
        refine hK.out _ _ (h.alloc _).cells (fun hHeld => ?_)
        clear hK K
        try simp only [Act.put, List.setIfInBounds_toArray, List.set_cons_zero, List.set_cons_succ]
        have b2 := h.box 1
        have h := h.alloc (.cells #[.int .i64 1] 3)
        generalize W0.alloc (.cells #[.int .i64 1] 3) = W59 at *
        generalize W0.heap.size = B59 at *
        refine wpAnyC_ready (rs := [8, 21]) (by kernel_rfl) (by kernel_rfl) (by simp) ?_
        refine AllC.cons (o := _) (List.getElem?_toArray.trans rfl) (fun K hK => ?_) (AllC.cons (o := _) (List.getElem?_toArray.trans rfl) (fun K hK => ?_) (AllC.nil))
        · go_simp
          refine hK.out _ _ (h.alloc _).cells (fun hHeld => ?_)
          clear hK K
          try simp only [Act.put, List.setIfInBounds_toArray, List.set_cons_zero, List.set_cons_succ]
          have b1 := h.box (i : Int)
          have b2 := b2.alloc (.cells #[.int .i64 (i : Int)] 3)
          have h := h.alloc (.cells #[.int .i64 (i : Int)] 3)
          generalize W59.alloc (.cells #[.int .i64 (i : Int)] 3) = W60 at *
          generalize W59.heap.size = B60 at *
          refine wpAnyC_ready (rs := [9, 21]) (by kernel_rfl) (by kernel_rfl) (by simp) ?_
          refine AllC.cons (o := _) (List.getElem?_toArray.trans rfl) (fun K hK => ?_) (AllC.cons (o := _) (List.getElem?_toArray.trans rfl) (fun K hK => ?_) (AllC.nil))
          · refine app_row_step (w0 := w) w.heap.size (by rfl) (.tmp 25) (.tmp 27) (by rfl) (.slice AU i cU) _ (rngL i) [(i : Int)] (by rfl) (by rfl) h.u b1.rd h.bel h.bel.size (by rw [rng_len]; simp; omega) ?_
            intro v1 W61 H1 HB hg hat
            rw [rng_snoc] at H1
            have b2 := b2.appU hg hat
            have h := h.appU H1 HB hg hat
            obtain ⟨A1', c1', rfl, _, _⟩ := H1.rd
            rw [rng_len] at h b2
            rw [rng_len]
            refine hK.out _ _ h.cells (fun hHeld => ?_)
            clear hK K H1 HB hg hat
            try simp only [Act.put, List.setIfInBounds_toArray, List.set_cons_zero, List.set_cons_succ]
            refine wpAnyC_ready (rs := [15, 21]) (by kernel_rfl) (by kernel_rfl) (by simp) ?_
            refine AllC.cons (o := _) (List.getElem?_toArray.trans rfl) (fun K hK => ?_) (AllC.cons (o := _) (List.getElem?_toArray.trans rfl) (fun K hK => ?_) (AllC.nil))
            · refine app_row_step (w0 := w) w.heap.size (by rfl) (.tmp 32) (.tmp 33) (by rfl) (.slice AS i cS) _ (oneL i) [1] (by rfl) (by rfl) h.s b2.rd h.bel h.bel.size (by rw [one_len]; simp; omega) ?_
              intro v2 W62 H1 HB hg hat
              rw [one_snoc] at H1
              have h := h.appS H1 HB hg hat
              obtain ⟨A2', c2', rfl, _, _⟩ := H1.rd
              rw [one_len] at h
              rw [one_len]
              refine hK.out _ _ h.cells (fun hHeld => ?_)
              clear hK K H1 HB hg hat
              try simp only [Act.put, List.setIfInBounds_toArray, List.set_cons_zero, List.set_cons_succ]
              refine wpAnyC_ready (rs := [21]) (by kernel_rfl) (by kernel_rfl) (by simp) ?_
              refine AllC.cons (o := _) (List.getElem?_toArray.trans rfl) (fun K hK => ?_) (AllC.nil)
              · go_simp
                refine hK.out _ _ (h.alloc _).cells (fun hHeld => ?_)
                clear hK K
                try simp only [Act.put, List.setIfInBounds_toArray, List.set_cons_zero, List.set_cons_succ]
                have b3 := h.box (i : Int)
                have b1 := b1.alloc (.cells #[.int .i64 (i : Int)] 3)
                have b2 := b2.alloc (.cells #[.int .i64 (i : Int)] 3)
                have h := h.alloc (.cells #[.int .i64 (i : Int)] 3)
                generalize W62.alloc (.cells #[.int .i64 (i : Int)] 3) = W63 at *
                generalize W62.heap.size = B63 at *
                refine wpAnyC_ready (rs := [22]) (by kernel_rfl) (by kernel_rfl) (by simp) ?_
                refine AllC.cons (o := _) (List.getElem?_toArray.trans rfl) (fun K hK => ?_) (AllC.nil)
                · refine app_row_step (w0 := w) w.heap.size (by rfl) (.tmp 38) (.tmp 40) (by rfl) (.slice AH i cH) _ (rngL i) [(i : Int)] (by rfl) (by rfl) h.h b3.rd h.bel h.bel.size (by rw [rng_len]; simp; omega) ?_
                  intro v3 W64 H1 HB hg hat
                  rw [rng_snoc] at H1
                  have h := h.appH H1 HB hg hat
                  obtain ⟨A3', c3', rfl, _, _⟩ := H1.rd
                  rw [rng_len] at h
                  rw [rng_len]
                  refine hK.out _ _ h.cells (fun hHeld => ?_)
                  clear hK K H1 HB hg hat
                  try simp only [Act.put, List.setIfInBounds_toArray, List.set_cons_zero, List.set_cons_succ]
                  refine wpAnyC_cut (by kernel_rfl) ?_
                  refine wpAny_of_held (S := fun _ => True) _ _ _ _ ?_
                  have hT : (fun _ : World => True) W64 := trivial
                  refine wpAnyH_take (i := 23) (oi := _) (v := ?_) (List.getElem?_toArray.trans rfl) (by kernel_rfl) (by kernel_rfl) (by kernel_rfl) (fun _ _ _ h => h) (Or.inl ⟨by rfl, ?_⟩) trivial ?_
                  rotate_left
                  · intro w hSw; (try dsimp only at hSw); go_simp <;> with_reducible rfl
                  try simp only [Act.put, List.setIfInBounds_toArray, List.set_cons_zero, List.set_cons_succ]
                  refine wpAnyH_take (i := 24) (oi := _) (v := ?_) (List.getElem?_toArray.trans rfl) (by kernel_rfl) (by kernel_rfl) (by kernel_rfl) (fun _ _ _ h => h) (Or.inl ⟨by rfl, ?_⟩) trivial ?_
                  rotate_left
                  · intro w hSw; (try dsimp only at hSw); go_simp <;> with_reducible rfl
                  try simp only [Act.put, List.setIfInBounds_toArray, List.set_cons_zero, List.set_cons_succ]
                  have e0 := blk_cell h.blk 0
                  have z0 := blk_frozen h.blk 0
                  refine wpAnyH_ready (rs := [25]) (by kernel_rfl) (by simp) ?_
                  refine AllReadyH.cons (o := _) (List.getElem?_toArray.trans rfl) (fun K hK => ?_) AllReadyH.nil
                  go_simp
                  refine hK.out _ _ trivial (fun hHeld => ?_)
                  clear hK K e0 z0
                  try simp only [Act.put, List.setIfInBounds_toArray, List.set_cons_zero, List.set_cons_succ]
                  have h := h.set 0 (.slice A1' (i + 1) c1') rfl
                  generalize W64.setCell ⟨w.heap.size, 0, none⟩ (.slice A1' (i + 1) c1') = W65 at *
                  refine wpAnyH_take (i := 26) (oi := _) (v := ?_) (List.getElem?_toArray.trans rfl) (by kernel_rfl) (by kernel_rfl) (by kernel_rfl) (fun _ _ _ h => h) (Or.inl ⟨by rfl, ?_⟩) trivial ?_
                  rotate_left
                  · intro w hSw; (try dsimp only at hSw); go_simp <;> with_reducible rfl
                  try simp only [Act.put, List.setIfInBounds_toArray, List.set_cons_zero, List.set_cons_succ]
                  refine wpAnyH_take (i := 27) (oi := _) (v := ?_) (List.getElem?_toArray.trans rfl) (by kernel_rfl) (by kernel_rfl) (by kernel_rfl) (fun _ _ _ h => h) (Or.inl ⟨by rfl, ?_⟩) trivial ?_
                  rotate_left
                  · intro w hSw; (try dsimp only at hSw); go_simp <;> with_reducible rfl
                  try simp only [Act.put, List.setIfInBounds_toArray, List.set_cons_zero, List.set_cons_succ]
                  have e1 := blk_cell h.blk 1
                  have z1 := blk_frozen h.blk 1
                  refine wpAnyH_ready (rs := [28]) (by kernel_rfl) (by simp) ?_
                  refine AllReadyH.cons (o := _) (List.getElem?_toArray.trans rfl) (fun K hK => ?_) AllReadyH.nil
                  go_simp
                  refine hK.out _ _ trivial (fun hHeld => ?_)
                  clear hK K e1 z1
                  try simp only [Act.put, List.setIfInBounds_toArray, List.set_cons_zero, List.set_cons_succ]
                  have h := h.set 1 (.slice A2' (i + 1) c2') rfl
                  generalize W65.setCell ⟨w.heap.size, 1, none⟩ (.slice A2' (i + 1) c2') = W66 at *
                  refine wpAnyH_take (i := 29) (oi := _) (v := ?_) (List.getElem?_toArray.trans rfl) (by kernel_rfl) (by kernel_rfl) (by kernel_rfl) (fun _ _ _ h => h) (Or.inl ⟨by rfl, ?_⟩) trivial ?_
                  rotate_left
                  · intro w hSw; (try dsimp only at hSw); go_simp <;> with_reducible rfl
                  try simp only [Act.put, List.setIfInBounds_toArray, List.set_cons_zero, List.set_cons_succ]
                  refine wpAnyH_take (i := 30) (oi := _) (v := ?_) (List.getElem?_toArray.trans rfl) (by kernel_rfl) (by kernel_rfl) (by kernel_rfl) (fun _ _ _ h => h) (Or.inl ⟨by rfl, ?_⟩) trivial ?_
                  rotate_left
                  · intro w hSw; (try dsimp only at hSw); go_simp <;> with_reducible rfl
                  try simp only [Act.put, List.setIfInBounds_toArray, List.set_cons_zero, List.set_cons_succ]
                  have e2 := blk_cell h.blk 2
                  have z2 := blk_frozen h.blk 2
                  refine wpAnyH_ready (rs := [31]) (by kernel_rfl) (by simp) ?_
                  refine AllReadyH.cons (o := _) (List.getElem?_toArray.trans rfl) (fun K hK => ?_) AllReadyH.nil
                  go_simp
                  refine hK.out _ _ trivial (fun hHeld => ?_)
                  clear hK K e2 z2
                  try simp only [Act.put, List.setIfInBounds_toArray, List.set_cons_zero, List.set_cons_succ]
                  have h := h.set 2 (.slice A3' (i + 1) c3') rfl
                  generalize W66.setCell ⟨w.heap.size, 2, none⟩ (.slice A3' (i + 1) c3') = W67 at *
                  refine wpAnyH_done (by kernel_rfl) ?_ _
                  go_wp2_with fail
                  go_roundw
                  case rel => exact ⟨i + 1, A1', A2', A3', c1', c2', c3', by go_num, by omega, h⟩
                  case measure => simp [intOf]; omega
            · go_simp
              refine hK.out _ _ (h.alloc _).cells (fun hHeld => ?_)
              clear hK K
              try simp only [Act.put, List.setIfInBounds_toArray, List.set_cons_zero, List.set_cons_succ]
              have b3 := h.box (i : Int)
              have b1 := b1.alloc (.cells #[.int .i64 (i : Int)] 3)
              have b2 := b2.alloc (.cells #[.int .i64 (i : Int)] 3)
              have h := h.alloc (.cells #[.int .i64 (i : Int)] 3)
              generalize W61.alloc (.cells #[.int .i64 (i : Int)] 3) = W68 at *
              generalize W61.heap.size = B68 at *
              refine wpAnyC_ready (rs := [15]) (by kernel_rfl) (by kernel_rfl) (by simp) ?_
              refine AllC.cons (o := _) (List.getElem?_toArray.trans rfl) (fun K hK => ?_) (AllC.nil)
              · refine app_row_step (w0 := w) w.heap.size (by rfl) (.tmp 32) (.tmp 33) (by rfl) (.slice AS i cS) _ (oneL i) [1] (by rfl) (by rfl) h.s b2.rd h.bel h.bel.size (by rw [one_len]; simp; omega) ?_
                intro v2 W69 H1 HB hg hat
                rw [one_snoc] at H1
                have b3 := b3.appS hg hat
                have h := h.appS H1 HB hg hat
                obtain ⟨A2', c2', rfl, _, _⟩ := H1.rd
                rw [one_len] at h b3
                rw [one_len]
                refine hK.out _ _ h.cells (fun hHeld => ?_)
                clear hK K H1 HB hg hat
                try simp only [Act.put, List.setIfInBounds_toArray, List.set_cons_zero, List.set_cons_succ]
                refine wpAnyC_ready (rs := [22]) (by kernel_rfl) (by kernel_rfl) (by simp) ?_
                refine AllC.cons (o := _) (List.getElem?_toArray.trans rfl) (fun K hK => ?_) (AllC.nil)
                · refine app_row_step (w0 := w) w.heap.size (by rfl) (.tmp 38) (.tmp 40) (by rfl) (.slice AH i cH) _ (rngL i) [(i : Int)] (by rfl) (by rfl) h.h b3.rd h.bel h.bel.size (by rw [rng_len]; simp; omega) ?_
                  intro v3 W70 H1 HB hg hat
                  rw [rng_snoc] at H1
                  have h := h.appH H1 HB hg hat
                  obtain ⟨A3', c3', rfl, _, _⟩ := H1.rd
                  rw [rng_len] at h
                  rw [rng_len]
                  refine hK.out _ _ h.cells (fun hHeld => ?_)
                  clear hK K H1 HB hg hat
                  try simp only [Act.put, List.setIfInBounds_toArray, List.set_cons_zero, List.set_cons_succ]
                  refine wpAnyC_cut (by kernel_rfl) ?_
                  refine wpAny_of_held (S := fun _ => True) _ _ _ _ ?_
                  have hT : (fun _ : World => True) W70 := trivial
                  refine wpAnyH_take (i := 23) (oi := _) (v := ?_) (List.getElem?_toArray.trans rfl) (by kernel_rfl) (by kernel_rfl) (by kernel_rfl) (fun _ _ _ h => h) (Or.inl ⟨by rfl, ?_⟩) trivial ?_
                  rotate_left
                  · intro w hSw; (try dsimp only at hSw); go_simp <;> with_reducible rfl
                  try simp only [Act.put, List.setIfInBounds_toArray, List.set_cons_zero, List.set_cons_succ]
                  refine wpAnyH_take (i := 24) (oi := _) (v := ?_) (List.getElem?_toArray.trans rfl) (by kernel_rfl) (by kernel_rfl) (by kernel_rfl) (fun _ _ _ h => h) (Or.inl ⟨by rfl, ?_⟩) trivial ?_
                  rotate_left
                  · intro w hSw; (try dsimp only at hSw); go_simp <;> with_reducible rfl
                  try simp only [Act.put, List.setIfInBounds_toArray, List.set_cons_zero, List.set_cons_succ]
                  have e0 := blk_cell h.blk 0
                  have z0 := blk_frozen h.blk 0
                  refine wpAnyH_ready (rs := [25]) (by kernel_rfl) (by simp) ?_
                  refine AllReadyH.cons (o := _) (List.getElem?_toArray.trans rfl) (fun K hK => ?_) AllReadyH.nil
                  go_simp
                  refine hK.out _ _ trivial (fun hHeld => ?_)
                  clear hK K e0 z0
                  try simp only [Act.put, List.setIfInBounds_toArray, List.set_cons_zero, List.set_cons_succ]
                  have h := h.set 0 (.slice A1' (i + 1) c1') rfl
                  generalize W70.setCell ⟨w.heap.size, 0, none⟩ (.slice A1' (i + 1) c1') = W71 at *
                  refine wpAnyH_take (i := 26) (oi := _) (v := ?_) (List.getElem?_toArray.trans rfl) (by kernel_rfl) (by kernel_rfl) (by kernel_rfl) (fun _ _ _ h => h) (Or.inl ⟨by rfl, ?_⟩) trivial ?_
                  rotate_left
                  · intro w hSw; (try dsimp only at hSw); go_simp <;> with_reducible rfl
                  try simp only [Act.put, List.setIfInBounds_toArray, List.set_cons_zero, List.set_cons_succ]
                  refine wpAnyH_take (i := 27) (oi := _) (v := ?_) (List.getElem?_toArray.trans rfl) (by kernel_rfl) (by kernel_rfl) (by kernel_rfl) (fun _ _ _ h => h) (Or.inl ⟨by rfl, ?_⟩) trivial ?_
                  rotate_left
                  · intro w hSw; (try dsimp only at hSw); go_simp <;> with_reducible rfl
                  try simp only [Act.put, List.setIfInBounds_toArray, List.set_cons_zero, List.set_cons_succ]
                  have e1 := blk_cell h.blk 1
                  have z1 := blk_frozen h.blk 1
                  refine wpAnyH_ready (rs := [28]) (by kernel_rfl) (by simp) ?_
                  refine AllReadyH.cons (o := _) (List.getElem?_toArray.trans rfl) (fun K hK => ?_) AllReadyH.nil
                  go_simp
                  refine hK.out _ _ trivial (fun hHeld => ?_)
                  clear hK K e1 z1
                  try simp only [Act.put, List.setIfInBounds_toArray, List.set_cons_zero, List.set_cons_succ]
                  have h := h.set 1 (.slice A2' (i + 1) c2') rfl
                  generalize W71.setCell ⟨w.heap.size, 1, none⟩ (.slice A2' (i + 1) c2') = W72 at *
                  refine wpAnyH_take (i := 29) (oi := _) (v := ?_) (List.getElem?_toArray.trans rfl) (by kernel_rfl) (by kernel_rfl) (by kernel_rfl) (fun _ _ _ h => h) (Or.inl ⟨by rfl, ?_⟩) trivial ?_
                  rotate_left
                  · intro w hSw; (try dsimp only at hSw); go_simp <;> with_reducible rfl
                  try simp only [Act.put, List.setIfInBounds_toArray, List.set_cons_zero, List.set_cons_succ]
                  refine wpAnyH_take (i := 30) (oi := _) (v := ?_) (List.getElem?_toArray.trans rfl) (by kernel_rfl) (by kernel_rfl) (by kernel_rfl) (fun _ _ _ h => h) (Or.inl ⟨by rfl, ?_⟩) trivial ?_
                  rotate_left
                  · intro w hSw; (try dsimp only at hSw); go_simp <;> with_reducible rfl
                  try simp only [Act.put, List.setIfInBounds_toArray, List.set_cons_zero, List.set_cons_succ]
                  have e2 := blk_cell h.blk 2
                  have z2 := blk_frozen h.blk 2
                  refine wpAnyH_ready (rs := [31]) (by kernel_rfl) (by simp) ?_
                  refine AllReadyH.cons (o := _) (List.getElem?_toArray.trans rfl) (fun K hK => ?_) AllReadyH.nil
                  go_simp
                  refine hK.out _ _ trivial (fun hHeld => ?_)
                  clear hK K e2 z2
                  try simp only [Act.put, List.setIfInBounds_toArray, List.set_cons_zero, List.set_cons_succ]
                  have h := h.set 2 (.slice A3' (i + 1) c3') rfl
                  generalize W72.setCell ⟨w.heap.size, 2, none⟩ (.slice A3' (i + 1) c3') = W73 at *
                  refine wpAnyH_done (by kernel_rfl) ?_ _
                  go_wp2_with fail
                  go_roundw
                  case rel => exact ⟨i + 1, A1', A2', A3', c1', c2', c3', by go_num, by omega, h⟩
                  case measure => simp [intOf]; omega
          · go_simp
            refine hK.out _ _ (h.alloc _).cells (fun hHeld => ?_)
            clear hK K
            try simp only [Act.put, List.setIfInBounds_toArray, List.set_cons_zero, List.set_cons_succ]
            have b3 := h.box (i : Int)
            have b1 := b1.alloc (.cells #[.int .i64 (i : Int)] 3)
            have b2 := b2.alloc (.cells #[.int .i64 (i : Int)] 3)
            have h := h.alloc (.cells #[.int .i64 (i : Int)] 3)
            generalize W60.alloc (.cells #[.int .i64 (i : Int)] 3) = W74 at *
            generalize W60.heap.size = B74 at *
            refine wpAnyC_ready (rs := [9]) (by kernel_rfl) (by kernel_rfl) (by simp) ?_
            refine AllC.cons (o := _) (List.getElem?_toArray.trans rfl) (fun K hK => ?_) (AllC.nil)
            · refine app_row_step (w0 := w) w.heap.size (by rfl) (.tmp 25) (.tmp 27) (by rfl) (.slice AU i cU) _ (rngL i) [(i : Int)] (by rfl) (by rfl) h.u b1.rd h.bel h.bel.size (by rw [rng_len]; simp; omega) ?_
              intro v1 W75 H1 HB hg hat
              rw [rng_snoc] at H1
              have b2 := b2.appU hg hat
              have b3 := b3.appU hg hat
              have h := h.appU H1 HB hg hat
              obtain ⟨A1', c1', rfl, _, _⟩ := H1.rd
              rw [rng_len] at h b2 b3
              rw [rng_len]
              refine hK.out _ _ h.cells (fun hHeld => ?_)
              clear hK K H1 HB hg hat
              try simp only [Act.put, List.setIfInBounds_toArray, List.set_cons_zero, List.set_cons_succ]
              refine wpAnyC_ready (rs := [15]) (by kernel_rfl) (by kernel_rfl) (by simp) ?_
              refine AllC.cons (o := _) (List.getElem?_toArray.trans rfl) (fun K hK => ?_) (AllC.nil)
              · refine app_row_step (w0 := w) w.heap.size (by rfl) (.tmp 32) (.tmp 33) (by rfl) (.slice AS i cS) _ (oneL i) [1] (by rfl) (by rfl) h.s b2.rd h.bel h.bel.size (by rw [one_len]; simp; omega) ?_
                intro v2 W76 H1 HB hg hat
                rw [one_snoc] at H1
                have b3 := b3.appS hg hat
                have h := h.appS H1 HB hg hat
                obtain ⟨A2', c2', rfl, _, _⟩ := H1.rd
                rw [one_len] at h b3
                rw [one_len]
                refine hK.out _ _ h.cells (fun hHeld => ?_)
                clear hK K H1 HB hg hat
                try simp only [Act.put, List.setIfInBounds_toArray, List.set_cons_zero, List.set_cons_succ]
                refine wpAnyC_ready (rs := [22]) (by kernel_rfl) (by kernel_rfl) (by simp) ?_
                refine AllC.cons (o := _) (List.getElem?_toArray.trans rfl) (fun K hK => ?_) (AllC.nil)
                · refine app_row_step (w0 := w) w.heap.size (by rfl) (.tmp 38) (.tmp 40) (by rfl) (.slice AH i cH) _ (rngL i) [(i : Int)] (by rfl) (by rfl) h.h b3.rd h.bel h.bel.size (by rw [rng_len]; simp; omega) ?_
                  intro v3 W77 H1 HB hg hat
                  rw [rng_snoc] at H1
                  have h := h.appH H1 HB hg hat
                  obtain ⟨A3', c3', rfl, _, _⟩ := H1.rd
                  rw [rng_len] at h
                  rw [rng_len]
                  refine hK.out _ _ h.cells (fun hHeld => ?_)
                  clear hK K H1 HB hg hat
                  try simp only [Act.put, List.setIfInBounds_toArray, List.set_cons_zero, List.set_cons_succ]
                  refine wpAnyC_cut (by kernel_rfl) ?_
                  refine wpAny_of_held (S := fun _ => True) _ _ _ _ ?_
                  have hT : (fun _ : World => True) W77 := trivial
                  refine wpAnyH_take (i := 23) (oi := _) (v := ?_) (List.getElem?_toArray.trans rfl) (by kernel_rfl) (by kernel_rfl) (by kernel_rfl) (fun _ _ _ h => h) (Or.inl ⟨by rfl, ?_⟩) trivial ?_
                  rotate_left
                  · intro w hSw; (try dsimp only at hSw); go_simp <;> with_reducible rfl
                  try simp only [Act.put, List.setIfInBounds_toArray, List.set_cons_zero, List.set_cons_succ]
                  refine wpAnyH_take (i := 24) (oi := _) (v := ?_) (List.getElem?_toArray.trans rfl) (by kernel_rfl) (by kernel_rfl) (by kernel_rfl) (fun _ _ _ h => h) (Or.inl ⟨by rfl, ?_⟩) trivial ?_
                  rotate_left
                  · intro w hSw; (try dsimp only at hSw); go_simp <;> with_reducible rfl
                  try simp only [Act.put, List.setIfInBounds_toArray, List.set_cons_zero, List.set_cons_succ]
                  have e0 := blk_cell h.blk 0
                  have z0 := blk_frozen h.blk 0
                  refine wpAnyH_ready (rs := [25]) (by kernel_rfl) (by simp) ?_
                  refine AllReadyH.cons (o := _) (List.getElem?_toArray.trans rfl) (fun K hK => ?_) AllReadyH.nil
                  go_simp
                  refine hK.out _ _ trivial (fun hHeld => ?_)
                  clear hK K e0 z0
                  try simp only [Act.put, List.setIfInBounds_toArray, List.set_cons_zero, List.set_cons_succ]
                  have h := h.set 0 (.slice A1' (i + 1) c1') rfl
                  generalize W77.setCell ⟨w.heap.size, 0, none⟩ (.slice A1' (i + 1) c1') = W78 at *
                  refine wpAnyH_take (i := 26) (oi := _) (v := ?_) (List.getElem?_toArray.trans rfl) (by kernel_rfl) (by kernel_rfl) (by kernel_rfl) (fun _ _ _ h => h) (Or.inl ⟨by rfl, ?_⟩) trivial ?_
                  rotate_left
                  · intro w hSw; (try dsimp only at hSw); go_simp <;> with_reducible rfl
                  try simp only [Act.put, List.setIfInBounds_toArray, List.set_cons_zero, List.set_cons_succ]
                  refine wpAnyH_take (i := 27) (oi := _) (v := ?_) (List.getElem?_toArray.trans rfl) (by kernel_rfl) (by kernel_rfl) (by kernel_rfl) (fun _ _ _ h => h) (Or.inl ⟨by rfl, ?_⟩) trivial ?_
                  rotate_left
                  · intro w hSw; (try dsimp only at hSw); go_simp <;> with_reducible rfl
                  try simp only [Act.put, List.setIfInBounds_toArray, List.set_cons_zero, List.set_cons_succ]
                  have e1 := blk_cell h.blk 1
                  have z1 := blk_frozen h.blk 1
                  refine wpAnyH_ready (rs := [28]) (by kernel_rfl) (by simp) ?_
                  refine AllReadyH.cons (o := _) (List.getElem?_toArray.trans rfl) (fun K hK => ?_) AllReadyH.nil
                  go_simp
                  refine hK.out _ _ trivial (fun hHeld => ?_)
                  clear hK K e1 z1
                  try simp only [Act.put, List.setIfInBounds_toArray, List.set_cons_zero, List.set_cons_succ]
                  have h := h.set 1 (.slice A2' (i + 1) c2') rfl
                  generalize W78.setCell ⟨w.heap.size, 1, none⟩ (.slice A2' (i + 1) c2') = W79 at *
                  refine wpAnyH_take (i := 29) (oi := _) (v := ?_) (List.getElem?_toArray.trans rfl) (by kernel_rfl) (by kernel_rfl) (by kernel_rfl) (fun _ _ _ h => h) (Or.inl ⟨by rfl, ?_⟩) trivial ?_
                  rotate_left
                  · intro w hSw; (try dsimp only at hSw); go_simp <;> with_reducible rfl
                  try simp only [Act.put, List.setIfInBounds_toArray, List.set_cons_zero, List.set_cons_succ]
                  refine wpAnyH_take (i := 30) (oi := _) (v := ?_) (List.getElem?_toArray.trans rfl) (by kernel_rfl) (by kernel_rfl) (by kernel_rfl) (fun _ _ _ h => h) (Or.inl ⟨by rfl, ?_⟩) trivial ?_
                  rotate_left
                  · intro w hSw; (try dsimp only at hSw); go_simp <;> with_reducible rfl
                  try simp only [Act.put, List.setIfInBounds_toArray, List.set_cons_zero, List.set_cons_succ]
                  have e2 := blk_cell h.blk 2
                  have z2 := blk_frozen h.blk 2
                  refine wpAnyH_ready (rs := [31]) (by kernel_rfl) (by simp) ?_
                  refine AllReadyH.cons (o := _) (List.getElem?_toArray.trans rfl) (fun K hK => ?_) AllReadyH.nil
                  go_simp
                  refine hK.out _ _ trivial (fun hHeld => ?_)
                  clear hK K e2 z2
                  try simp only [Act.put, List.setIfInBounds_toArray, List.set_cons_zero, List.set_cons_succ]
                  have h := h.set 2 (.slice A3' (i + 1) c3') rfl
                  generalize W79.setCell ⟨w.heap.size, 2, none⟩ (.slice A3' (i + 1) c3') = W80 at *
                  refine wpAnyH_done (by kernel_rfl) ?_ _
                  go_wp2_with fail
                  go_roundw
                  case rel => exact ⟨i + 1, A1', A2', A3', c1', c2', c3', by go_num, by omega, h⟩
                  case measure => simp [intOf]; omega
        · go_simp
          refine hK.out _ _ (h.alloc _).cells (fun hHeld => ?_)
          clear hK K
          try simp only [Act.put, List.setIfInBounds_toArray, List.set_cons_zero, List.set_cons_succ]
          have b3 := h.box (i : Int)
          have b2 := b2.alloc (.cells #[.int .i64 (i : Int)] 3)
          have h := h.alloc (.cells #[.int .i64 (i : Int)] 3)
          generalize W59.alloc (.cells #[.int .i64 (i : Int)] 3) = W81 at *
          generalize W59.heap.size = B81 at *
          refine wpAnyC_ready (rs := [8]) (by kernel_rfl) (by kernel_rfl) (by simp) ?_
          refine AllC.cons (o := _) (List.getElem?_toArray.trans rfl) (fun K hK => ?_) (AllC.nil)
          · go_simp
            refine hK.out _ _ (h.alloc _).cells (fun hHeld => ?_)
            clear hK K
            try simp only [Act.put, List.setIfInBounds_toArray, List.set_cons_zero, List.set_cons_succ]
            have b1 := h.box (i : Int)
            have b2 := b2.alloc (.cells #[.int .i64 (i : Int)] 3)
            have b3 := b3.alloc (.cells #[.int .i64 (i : Int)] 3)
            have h := h.alloc (.cells #[.int .i64 (i : Int)] 3)
            generalize W81.alloc (.cells #[.int .i64 (i : Int)] 3) = W82 at *
            generalize W81.heap.size = B82 at *
            refine wpAnyC_ready (rs := [9]) (by kernel_rfl) (by kernel_rfl) (by simp) ?_
            refine AllC.cons (o := _) (List.getElem?_toArray.trans rfl) (fun K hK => ?_) (AllC.nil)
            · refine app_row_step (w0 := w) w.heap.size (by rfl) (.tmp 25) (.tmp 27) (by rfl) (.slice AU i cU) _ (rngL i) [(i : Int)] (by rfl) (by rfl) h.u b1.rd h.bel h.bel.size (by rw [rng_len]; simp; omega) ?_
              intro v1 W83 H1 HB hg hat
              rw [rng_snoc] at H1
              have b2 := b2.appU hg hat
              have b3 := b3.appU hg hat
              have h := h.appU H1 HB hg hat
              obtain ⟨A1', c1', rfl, _, _⟩ := H1.rd
              rw [rng_len] at h b2 b3
              rw [rng_len]
              refine hK.out _ _ h.cells (fun hHeld => ?_)
              clear hK K H1 HB hg hat
              try simp only [Act.put, List.setIfInBounds_toArray, List.set_cons_zero, List.set_cons_succ]
              refine wpAnyC_ready (rs := [15]) (by kernel_rfl) (by kernel_rfl) (by simp) ?_
              refine AllC.cons (o := _) (List.getElem?_toArray.trans rfl) (fun K hK => ?_) (AllC.nil)
              · refine app_row_step (w0 := w) w.heap.size (by rfl) (.tmp 32) (.tmp 33) (by rfl) (.slice AS i cS) _ (oneL i) [1] (by rfl) (by rfl) h.s b2.rd h.bel h.bel.size (by rw [one_len]; simp; omega) ?_
                intro v2 W84 H1 HB hg hat
                rw [one_snoc] at H1
                have b3 := b3.appS hg hat
                have h := h.appS H1 HB hg hat
                obtain ⟨A2', c2', rfl, _, _⟩ := H1.rd
                rw [one_len] at h b3
                rw [one_len]
                refine hK.out _ _ h.cells (fun hHeld => ?_)
                clear hK K H1 HB hg hat
                try simp only [Act.put, List.setIfInBounds_toArray, List.set_cons_zero, List.set_cons_succ]
                refine wpAnyC_ready (rs := [22]) (by kernel_rfl) (by kernel_rfl) (by simp) ?_
                refine AllC.cons (o := _) (List.getElem?_toArray.trans rfl) (fun K hK => ?_) (AllC.nil)
                · refine app_row_step (w0 := w) w.heap.size (by rfl) (.tmp 38) (.tmp 40) (by rfl) (.slice AH i cH) _ (rngL i) [(i : Int)] (by rfl) (by rfl) h.h b3.rd h.bel h.bel.size (by rw [rng_len]; simp; omega) ?_
                  intro v3 W85 H1 HB hg hat
                  rw [rng_snoc] at H1
                  have h := h.appH H1 HB hg hat
                  obtain ⟨A3', c3', rfl, _, _⟩ := H1.rd
                  rw [rng_len] at h
                  rw [rng_len]
                  refine hK.out _ _ h.cells (fun hHeld => ?_)
                  clear hK K H1 HB hg hat
                  try simp only [Act.put, List.setIfInBounds_toArray, List.set_cons_zero, List.set_cons_succ]
                  refine wpAnyC_cut (by kernel_rfl) ?_
                  refine wpAny_of_held (S := fun _ => True) _ _ _ _ ?_
                  have hT : (fun _ : World => True) W85 := trivial
                  refine wpAnyH_take (i := 23) (oi := _) (v := ?_) (List.getElem?_toArray.trans rfl) (by kernel_rfl) (by kernel_rfl) (by kernel_rfl) (fun _ _ _ h => h) (Or.inl ⟨by rfl, ?_⟩) trivial ?_
                  rotate_left
                  · intro w hSw; (try dsimp only at hSw); go_simp <;> with_reducible rfl
                  try simp only [Act.put, List.setIfInBounds_toArray, List.set_cons_zero, List.set_cons_succ]
                  refine wpAnyH_take (i := 24) (oi := _) (v := ?_) (List.getElem?_toArray.trans rfl) (by kernel_rfl) (by kernel_rfl) (by kernel_rfl) (fun _ _ _ h => h) (Or.inl ⟨by rfl, ?_⟩) trivial ?_
                  rotate_left
                  · intro w hSw; (try dsimp only at hSw); go_simp <;> with_reducible rfl
                  try simp only [Act.put, List.setIfInBounds_toArray, List.set_cons_zero, List.set_cons_succ]
                  have e0 := blk_cell h.blk 0
                  have z0 := blk_frozen h.blk 0
                  refine wpAnyH_ready (rs := [25]) (by kernel_rfl) (by simp) ?_
                  refine AllReadyH.cons (o := _) (List.getElem?_toArray.trans rfl) (fun K hK => ?_) AllReadyH.nil
                  go_simp
                  refine hK.out _ _ trivial (fun hHeld => ?_)
                  clear hK K e0 z0
                  try simp only [Act.put, List.setIfInBounds_toArray, List.set_cons_zero, List.set_cons_succ]
                  have h := h.set 0 (.slice A1' (i + 1) c1') rfl
                  generalize W85.setCell ⟨w.heap.size, 0, none⟩ (.slice A1' (i + 1) c1') = W86 at *
                  refine wpAnyH_take (i := 26) (oi := _) (v := ?_) (List.getElem?_toArray.trans rfl) (by kernel_rfl) (by kernel_rfl) (by kernel_rfl) (fun _ _ _ h => h) (Or.inl ⟨by rfl, ?_⟩) trivial ?_
                  rotate_left
                  · intro w hSw; (try dsimp only at hSw); go_simp <;> with_reducible rfl
                  try simp only [Act.put, List.setIfInBounds_toArray, List.set_cons_zero, List.set_cons_succ]
                  refine wpAnyH_take (i := 27) (oi := _) (v := ?_) (List.getElem?_toArray.trans rfl) (by kernel_rfl) (by kernel_rfl) (by kernel_rfl) (fun _ _ _ h => h) (Or.inl ⟨by rfl, ?_⟩) trivial ?_
                  rotate_left
                  · intro w hSw; (try dsimp only at hSw); go_simp <;> with_reducible rfl
                  try simp only [Act.put, List.setIfInBounds_toArray, List.set_cons_zero, List.set_cons_succ]
                  have e1 := blk_cell h.blk 1
                  have z1 := blk_frozen h.blk 1
                  refine wpAnyH_ready (rs := [28]) (by kernel_rfl) (by simp) ?_
                  refine AllReadyH.cons (o := _) (List.getElem?_toArray.trans rfl) (fun K hK => ?_) AllReadyH.nil
                  go_simp
                  refine hK.out _ _ trivial (fun hHeld => ?_)
                  clear hK K e1 z1
                  try simp only [Act.put, List.setIfInBounds_toArray, List.set_cons_zero, List.set_cons_succ]
                  have h := h.set 1 (.slice A2' (i + 1) c2') rfl
                  generalize W86.setCell ⟨w.heap.size, 1, none⟩ (.slice A2' (i + 1) c2') = W87 at *
                  refine wpAnyH_take (i := 29) (oi := _) (v := ?_) (List.getElem?_toArray.trans rfl) (by kernel_rfl) (by kernel_rfl) (by kernel_rfl) (fun _ _ _ h => h) (Or.inl ⟨by rfl, ?_⟩) trivial ?_
                  rotate_left
                  · intro w hSw; (try dsimp only at hSw); go_simp <;> with_reducible rfl
                  try simp only [Act.put, List.setIfInBounds_toArray, List.set_cons_zero, List.set_cons_succ]
                  refine wpAnyH_take (i := 30) (oi := _) (v := ?_) (List.getElem?_toArray.trans rfl) (by kernel_rfl) (by kernel_rfl) (by kernel_rfl) (fun _ _ _ h => h) (Or.inl ⟨by rfl, ?_⟩) trivial ?_
                  rotate_left
                  · intro w hSw; (try dsimp only at hSw); go_simp <;> with_reducible rfl
                  try simp only [Act.put, List.setIfInBounds_toArray, List.set_cons_zero, List.set_cons_succ]
                  have e2 := blk_cell h.blk 2
                  have z2 := blk_frozen h.blk 2
                  refine wpAnyH_ready (rs := [31]) (by kernel_rfl) (by simp) ?_
                  refine AllReadyH.cons (o := _) (List.getElem?_toArray.trans rfl) (fun K hK => ?_) AllReadyH.nil
                  go_simp
                  refine hK.out _ _ trivial (fun hHeld => ?_)
                  clear hK K e2 z2
                  try simp only [Act.put, List.setIfInBounds_toArray, List.set_cons_zero, List.set_cons_succ]
                  have h := h.set 2 (.slice A3' (i + 1) c3') rfl
                  generalize W87.setCell ⟨w.heap.size, 2, none⟩ (.slice A3' (i + 1) c3') = W88 at *
                  refine wpAnyH_done (by kernel_rfl) ?_ _
                  go_wp2_with fail
                  go_roundw
                  case rel => exact ⟨i + 1, A1', A2', A3', c1', c2', c3', by go_num, by omega, h⟩
                  case measure => simp [intOf]; omega
      · go_simp
        refine hK.out _ _ (h.alloc _).cells (fun hHeld => ?_)
        clear hK K
        try simp only [Act.put, List.setIfInBounds_toArray, List.set_cons_zero, List.set_cons_succ]
        have b3 := h.box (i : Int)
        have h := h.alloc (.cells #[.int .i64 (i : Int)] 3)
        generalize W0.alloc (.cells #[.int .i64 (i : Int)] 3) = W89 at *
        generalize W0.heap.size = B89 at *
        refine wpAnyC_ready (rs := [8, 14]) (by kernel_rfl) (by kernel_rfl) (by simp) ?_
        refine AllC.cons (o := _) (List.getElem?_toArray.trans rfl) (fun K hK => ?_) (AllC.cons (o := _) (List.getElem?_toArray.trans rfl) (fun K hK => ?_) (AllC.nil))
        · go_simp
          refine hK.out _ _ (h.alloc _).cells (fun hHeld => ?_)
          clear hK K
          try simp only [Act.put, List.setIfInBounds_toArray, List.set_cons_zero, List.set_cons_succ]
          have b1 := h.box (i : Int)
          have b3 := b3.alloc (.cells #[.int .i64 (i : Int)] 3)
          have h := h.alloc (.cells #[.int .i64 (i : Int)] 3)
          generalize W89.alloc (.cells #[.int .i64 (i : Int)] 3) = W90 at *
          generalize W89.heap.size = B90 at *
          refine wpAnyC_ready (rs := [9, 14]) (by kernel_rfl) (by kernel_rfl) (by simp) ?_
          refine AllC.cons (o := _) (List.getElem?_toArray.trans rfl) (fun K hK => ?_) (AllC.cons (o := _) (List.getElem?_toArray.trans rfl) (fun K hK => ?_) (AllC.nil))
          · refine app_row_step (w0 := w) w.heap.size (by rfl) (.tmp 25) (.tmp 27) (by rfl) (.slice AU i cU) _ (rngL i) [(i : Int)] (by rfl) (by rfl) h.u b1.rd h.bel h.bel.size (by rw [rng_len]; simp; omega) ?_
            intro v1 W91 H1 HB hg hat
            rw [rng_snoc] at H1
            have b3 := b3.appU hg hat
            have h := h.appU H1 HB hg hat
            obtain ⟨A1', c1', rfl, _, _⟩ := H1.rd
            rw [rng_len] at h b3
            rw [rng_len]
            refine hK.out _ _ h.cells (fun hHeld => ?_)
            clear hK K H1 HB hg hat
            try simp only [Act.put, List.setIfInBounds_toArray, List.set_cons_zero, List.set_cons_succ]
            refine wpAnyC_ready (rs := [14]) (by kernel_rfl) (by kernel_rfl) (by simp) ?_
            refine AllC.cons (o := _) (List.getElem?_toArray.trans rfl) (fun K hK => ?_) (AllC.nil)
            · go_simp
              refine hK.out _ _ (h.alloc _).cells (fun hHeld => ?_)
              clear hK K
              try simp only [Act.put, List.setIfInBounds_toArray, List.set_cons_zero, List.set_cons_succ]
              have b2 := h.box 1
              have b1 := b1.alloc (.cells #[.int .i64 1] 3)
              have b3 := b3.alloc (.cells #[.int .i64 1] 3)
              have h := h.alloc (.cells #[.int .i64 1] 3)
              generalize W91.alloc (.cells #[.int .i64 1] 3) = W92 at *
              generalize W91.heap.size = B92 at *
              refine wpAnyC_ready (rs := [15]) (by kernel_rfl) (by kernel_rfl) (by simp) ?_
              refine AllC.cons (o := _) (List.getElem?_toArray.trans rfl) (fun K hK => ?_) (AllC.nil)
              · refine app_row_step (w0 := w) w.heap.size (by rfl) (.tmp 32) (.tmp 33) (by rfl) (.slice AS i cS) _ (oneL i) [1] (by rfl) (by rfl) h.s b2.rd h.bel h.bel.size (by rw [one_len]; simp; omega) ?_
                intro v2 W93 H1 HB hg hat
                rw [one_snoc] at H1
                have b3 := b3.appS hg hat
                have h := h.appS H1 HB hg hat
                obtain ⟨A2', c2', rfl, _, _⟩ := H1.rd
                rw [one_len] at h b3
                rw [one_len]
                refine hK.out _ _ h.cells (fun hHeld => ?_)
                clear hK K H1 HB hg hat
                try simp only [Act.put, List.setIfInBounds_toArray, List.set_cons_zero, List.set_cons_succ]
                refine wpAnyC_ready (rs := [22]) (by kernel_rfl) (by kernel_rfl) (by simp) ?_
                refine AllC.cons (o := _) (List.getElem?_toArray.trans rfl) (fun K hK => ?_) (AllC.nil)
                · refine app_row_step (w0 := w) w.heap.size (by rfl) (.tmp 38) (.tmp 40) (by rfl) (.slice AH i cH) _ (rngL i) [(i : Int)] (by rfl) (by rfl) h.h b3.rd h.bel h.bel.size (by rw [rng_len]; simp; omega) ?_
                  intro v3 W94 H1 HB hg hat
                  rw [rng_snoc] at H1
                  have h := h.appH H1 HB hg hat
                  obtain ⟨A3', c3', rfl, _, _⟩ := H1.rd
                  rw [rng_len] at h
                  rw [rng_len]
                  refine hK.out _ _ h.cells (fun hHeld => ?_)
                  clear hK K H1 HB hg hat
                  try simp only [Act.put, List.setIfInBounds_toArray, List.set_cons_zero, List.set_cons_succ]
                  refine wpAnyC_cut (by kernel_rfl) ?_
                  refine wpAny_of_held (S := fun _ => True) _ _ _ _ ?_
                  have hT : (fun _ : World => True) W94 := trivial
                  refine wpAnyH_take (i := 23) (oi := _) (v := ?_) (List.getElem?_toArray.trans rfl) (by kernel_rfl) (by kernel_rfl) (by kernel_rfl) (fun _ _ _ h => h) (Or.inl ⟨by rfl, ?_⟩) trivial ?_
                  rotate_left
                  · intro w hSw; (try dsimp only at hSw); go_simp <;> with_reducible rfl
                  try simp only [Act.put, List.setIfInBounds_toArray, List.set_cons_zero, List.set_cons_succ]
                  refine wpAnyH_take (i := 24) (oi := _) (v := ?_) (List.getElem?_toArray.trans rfl) (by kernel_rfl) (by kernel_rfl) (by kernel_rfl) (fun _ _ _ h => h) (Or.inl ⟨by rfl, ?_⟩) trivial ?_
                  rotate_left
                  · intro w hSw; (try dsimp only at hSw); go_simp <;> with_reducible rfl
                  try simp only [Act.put, List.setIfInBounds_toArray, List.set_cons_zero, List.set_cons_succ]
                  have e0 := blk_cell h.blk 0
                  have z0 := blk_frozen h.blk 0
                  refine wpAnyH_ready (rs := [25]) (by kernel_rfl) (by simp) ?_
                  refine AllReadyH.cons (o := _) (List.getElem?_toArray.trans rfl) (fun K hK => ?_) AllReadyH.nil
                  go_simp
                  refine hK.out _ _ trivial (fun hHeld => ?_)
                  clear hK K e0 z0
                  try simp only [Act.put, List.setIfInBounds_toArray, List.set_cons_zero, List.set_cons_succ]
                  have h := h.set 0 (.slice A1' (i + 1) c1') rfl
                  generalize W94.setCell ⟨w.heap.size, 0, none⟩ (.slice A1' (i + 1) c1') = W95 at *
                  refine wpAnyH_take (i := 26) (oi := _) (v := ?_) (List.getElem?_toArray.trans rfl) (by kernel_rfl) (by kernel_rfl) (by kernel_rfl) (fun _ _ _ h => h) (Or.inl ⟨by rfl, ?_⟩) trivial ?_
                  rotate_left
                  · intro w hSw; (try dsimp only at hSw); go_simp <;> with_reducible rfl
                  try simp only [Act.put, List.setIfInBounds_toArray, List.set_cons_zero, List.set_cons_succ]
                  refine wpAnyH_take (i := 27) (oi := _) (v := ?_) (List.getElem?_toArray.trans rfl) (by kernel_rfl) (by kernel_rfl) (by kernel_rfl) (fun _ _ _ h => h) (Or.inl ⟨by rfl, ?_⟩) trivial ?_
                  rotate_left
                  · intro w hSw; (try dsimp only at hSw); go_simp <;> with_reducible rfl
                  try simp only [Act.put, List.setIfInBounds_toArray, List.set_cons_zero, List.set_cons_succ]
                  have e1 := blk_cell h.blk 1
                  have z1 := blk_frozen h.blk 1
                  refine wpAnyH_ready (rs := [28]) (by kernel_rfl) (by simp) ?_
                  refine AllReadyH.cons (o := _) (List.getElem?_toArray.trans rfl) (fun K hK => ?_) AllReadyH.nil
                  go_simp
                  refine hK.out _ _ trivial (fun hHeld => ?_)
                  clear hK K e1 z1
                  try simp only [Act.put, List.setIfInBounds_toArray, List.set_cons_zero, List.set_cons_succ]
                  have h := h.set 1 (.slice A2' (i + 1) c2') rfl
                  generalize W95.setCell ⟨w.heap.size, 1, none⟩ (.slice A2' (i + 1) c2') = W96 at *
                  refine wpAnyH_take (i := 29) (oi := _) (v := ?_) (List.getElem?_toArray.trans rfl) (by kernel_rfl) (by kernel_rfl) (by kernel_rfl) (fun _ _ _ h => h) (Or.inl ⟨by rfl, ?_⟩) trivial ?_
                  rotate_left
                  · intro w hSw; (try dsimp only at hSw); go_simp <;> with_reducible rfl
                  try simp only [Act.put, List.setIfInBounds_toArray, List.set_cons_zero, List.set_cons_succ]
                  refine wpAnyH_take (i := 30) (oi := _) (v := ?_) (List.getElem?_toArray.trans rfl) (by kernel_rfl) (by kernel_rfl) (by kernel_rfl) (fun _ _ _ h => h) (Or.inl ⟨by rfl, ?_⟩) trivial ?_
                  rotate_left
                  · intro w hSw; (try dsimp only at hSw); go_simp <;> with_reducible rfl
                  try simp only [Act.put, List.setIfInBounds_toArray, List.set_cons_zero, List.set_cons_succ]
                  have e2 := blk_cell h.blk 2
                  have z2 := blk_frozen h.blk 2
                  refine wpAnyH_ready (rs := [31]) (by kernel_rfl) (by simp) ?_
                  refine AllReadyH.cons (o := _) (List.getElem?_toArray.trans rfl) (fun K hK => ?_) AllReadyH.nil
                  go_simp
                  refine hK.out _ _ trivial (fun hHeld => ?_)
                  clear hK K e2 z2
                  try simp only [Act.put, List.setIfInBounds_toArray, List.set_cons_zero, List.set_cons_succ]
                  have h := h.set 2 (.slice A3' (i + 1) c3') rfl
                  generalize W96.setCell ⟨w.heap.size, 2, none⟩ (.slice A3' (i + 1) c3') = W97 at *
                  refine wpAnyH_done (by kernel_rfl) ?_ _
                  go_wp2_with fail
                  go_roundw
                  case rel => exact ⟨i + 1, A1', A2', A3', c1', c2', c3', by go_num, by omega, h⟩
                  case measure => simp [intOf]; omega
          · go_simp
            refine hK.out _ _ (h.alloc _).cells (fun hHeld => ?_)
            clear hK K
            try simp only [Act.put, List.setIfInBounds_toArray, List.set_cons_zero, List.set_cons_succ]
            have b2 := h.box 1
            have b1 := b1.alloc (.cells #[.int .i64 1] 3)
            have b3 := b3.alloc (.cells #[.int .i64 1] 3)
            have h := h.alloc (.cells #[.int .i64 1] 3)
            generalize W90.alloc (.cells #[.int .i64 1] 3) = W98 at *
            generalize W90.heap.size = B98 at *
            refine wpAnyC_ready (rs := [9]) (by kernel_rfl) (by kernel_rfl) (by simp) ?_
            refine AllC.cons (o := _) (List.getElem?_toArray.trans rfl) (fun K hK => ?_) (AllC.nil)
            · refine app_row_step (w0 := w) w.heap.size (by rfl) (.tmp 25) (.tmp 27) (by rfl) (.slice AU i cU) _ (rngL i) [(i : Int)] (by rfl) (by rfl) h.u b1.rd h.bel h.bel.size (by rw [rng_len]; simp; omega) ?_
              intro v1 W99 H1 HB hg hat
              rw [rng_snoc] at H1
              have b2 := b2.appU hg hat
              have b3 := b3.appU hg hat
              have h := h.appU H1 HB hg hat
              obtain ⟨A1', c1', rfl, _, _⟩ := H1.rd
              rw [rng_len] at h b2 b3
              rw [rng_len]
              refine hK.out _ _ h.cells (fun hHeld => ?_)
              clear hK K H1 HB hg hat
              try simp only [Act.put, List.setIfInBounds_toArray, List.set_cons_zero, List.set_cons_succ]
              refine wpAnyC_ready (rs := [15]) (by kernel_rfl) (by kernel_rfl) (by simp) ?_
              refine AllC.cons (o := _) (List.getElem?_toArray.trans rfl) (fun K hK => ?_) (AllC.nil)
              · refine app_row_step (w0 := w) w.heap.size (by rfl) (.tmp 32) (.tmp 33) (by rfl) (.slice AS i cS) _ (oneL i) [1] (by rfl) (by rfl) h.s b2.rd h.bel h.bel.size (by rw [one_len]; simp; omega) ?_
                intro v2 W100 H1 HB hg hat
                rw [one_snoc] at H1
                have b3 := b3.appS hg hat
                have h := h.appS H1 HB hg hat
                obtain ⟨A2', c2', rfl, _, _⟩ := H1.rd
                rw [one_len] at h b3
                rw [one_len]
                refine hK.out _ _ h.cells (fun hHeld => ?_)
                clear hK K H1 HB hg hat
                try simp only [Act.put, List.setIfInBounds_toArray, List.set_cons_zero, List.set_cons_succ]
                refine wpAnyC_ready (rs := [22]) (by kernel_rfl) (by kernel_rfl) (by simp) ?_
                refine AllC.cons (o := _) (List.getElem?_toArray.trans rfl) (fun K hK => ?_) (AllC.nil)
                · refine app_row_step (w0 := w) w.heap.size (by rfl) (.tmp 38) (.tmp 40) (by rfl) (.slice AH i cH) _ (rngL i) [(i : Int)] (by rfl) (by rfl) h.h b3.rd h.bel h.bel.size (by rw [rng_len]; simp; omega) ?_
                  intro v3 W101 H1 HB hg hat
                  rw [rng_snoc] at H1
                  have h := h.appH H1 HB hg hat
                  obtain ⟨A3', c3', rfl, _, _⟩ := H1.rd
                  rw [rng_len] at h
                  rw [rng_len]
                  refine hK.out _ _ h.cells (fun hHeld => ?_)
                  clear hK K H1 HB hg hat
                  try simp only [Act.put, List.setIfInBounds_toArray, List.set_cons_zero, List.set_cons_succ]
                  refine wpAnyC_cut (by kernel_rfl) ?_
                  refine wpAny_of_held (S := fun _ => True) _ _ _ _ ?_
                  have hT : (fun _ : World => True) W101 := trivial
                  refine wpAnyH_take (i := 23) (oi := _) (v := ?_) (List.getElem?_toArray.trans rfl) (by kernel_rfl) (by kernel_rfl) (by kernel_rfl) (fun _ _ _ h => h) (Or.inl ⟨by rfl, ?_⟩) trivial ?_
                  rotate_left
                  · intro w hSw; (try dsimp only at hSw); go_simp <;> with_reducible rfl
                  try simp only [Act.put, List.setIfInBounds_toArray, List.set_cons_zero, List.set_cons_succ]
                  refine wpAnyH_take (i := 24) (oi := _) (v := ?_) (List.getElem?_toArray.trans rfl) (by kernel_rfl) (by kernel_rfl) (by kernel_rfl) (fun _ _ _ h => h) (Or.inl ⟨by rfl, ?_⟩) trivial ?_
                  rotate_left
                  · intro w hSw; (try dsimp only at hSw); go_simp <;> with_reducible rfl
                  try simp only [Act.put, List.setIfInBounds_toArray, List.set_cons_zero, List.set_cons_succ]
                  have e0 := blk_cell h.blk 0
                  have z0 := blk_frozen h.blk 0
                  refine wpAnyH_ready (rs := [25]) (by kernel_rfl) (by simp) ?_
                  refine AllReadyH.cons (o := _) (List.getElem?_toArray.trans rfl) (fun K hK => ?_) AllReadyH.nil
                  go_simp
                  refine hK.out _ _ trivial (fun hHeld => ?_)
                  clear hK K e0 z0
                  try simp only [Act.put, List.setIfInBounds_toArray, List.set_cons_zero, List.set_cons_succ]
                  have h := h.set 0 (.slice A1' (i + 1) c1') rfl
                  generalize W101.setCell ⟨w.heap.size, 0, none⟩ (.slice A1' (i + 1) c1') = W102 at *
                  refine wpAnyH_take (i := 26) (oi := _) (v := ?_) (List.getElem?_toArray.trans rfl) (by kernel_rfl) (by kernel_rfl) (by kernel_rfl) (fun _ _ _ h => h) (Or.inl ⟨by rfl, ?_⟩) trivial ?_
                  rotate_left
                  · intro w hSw; (try dsimp only at hSw); go_simp <;> with_reducible rfl
                  try simp only [Act.put, List.setIfInBounds_toArray, List.set_cons_zero, List.set_cons_succ]
                  refine wpAnyH_take (i := 27) (oi := _) (v := ?_) (List.getElem?_toArray.trans rfl) (by kernel_rfl) (by kernel_rfl) (by kernel_rfl) (fun _ _ _ h => h) (Or.inl ⟨by rfl, ?_⟩) trivial ?_
                  rotate_left
                  · intro w hSw; (try dsimp only at hSw); go_simp <;> with_reducible rfl
                  try simp only [Act.put, List.setIfInBounds_toArray, List.set_cons_zero, List.set_cons_succ]
                  have e1 := blk_cell h.blk 1
                  have z1 := blk_frozen h.blk 1
                  refine wpAnyH_ready (rs := [28]) (by kernel_rfl) (by simp) ?_
                  refine AllReadyH.cons (o := _) (List.getElem?_toArray.trans rfl) (fun K hK => ?_) AllReadyH.nil
                  go_simp
                  refine hK.out _ _ trivial (fun hHeld => ?_)
                  clear hK K e1 z1
                  try simp only [Act.put, List.setIfInBounds_toArray, List.set_cons_zero, List.set_cons_succ]
                  have h := h.set 1 (.slice A2' (i + 1) c2') rfl
                  generalize W102.setCell ⟨w.heap.size, 1, none⟩ (.slice A2' (i + 1) c2') = W103 at *
                  refine wpAnyH_take (i := 29) (oi := _) (v := ?_) (List.getElem?_toArray.trans rfl) (by kernel_rfl) (by kernel_rfl) (by kernel_rfl) (fun _ _ _ h => h) (Or.inl ⟨by rfl, ?_⟩) trivial ?_
                  rotate_left
                  · intro w hSw; (try dsimp only at hSw); go_simp <;> with_reducible rfl
                  try simp only [Act.put, List.setIfInBounds_toArray, List.set_cons_zero, List.set_cons_succ]
                  refine wpAnyH_take (i := 30) (oi := _) (v := ?_) (List.getElem?_toArray.trans rfl) (by kernel_rfl) (by kernel_rfl) (by kernel_rfl) (fun _ _ _ h => h) (Or.inl ⟨by rfl, ?_⟩) trivial ?_
                  rotate_left
                  · intro w hSw; (try dsimp only at hSw); go_simp <;> with_reducible rfl
                  try simp only [Act.put, List.setIfInBounds_toArray, List.set_cons_zero, List.set_cons_succ]
                  have e2 := blk_cell h.blk 2
                  have z2 := blk_frozen h.blk 2
                  refine wpAnyH_ready (rs := [31]) (by kernel_rfl) (by simp) ?_
                  refine AllReadyH.cons (o := _) (List.getElem?_toArray.trans rfl) (fun K hK => ?_) AllReadyH.nil
                  go_simp
                  refine hK.out _ _ trivial (fun hHeld => ?_)
                  clear hK K e2 z2
                  try simp only [Act.put, List.setIfInBounds_toArray, List.set_cons_zero, List.set_cons_succ]
                  have h := h.set 2 (.slice A3' (i + 1) c3') rfl
                  generalize W103.setCell ⟨w.heap.size, 2, none⟩ (.slice A3' (i + 1) c3') = W104 at *
                  refine wpAnyH_done (by kernel_rfl) ?_ _
                  go_wp2_with fail
                  go_roundw
                  case rel => exact ⟨i + 1, A1', A2', A3', c1', c2', c3', by go_num, by omega, h⟩
                  case measure => simp [intOf]; omega
        · go_simp
          refine hK.out _ _ (h.alloc _).cells (fun hHeld => ?_)
          clear hK K
          try simp only [Act.put, List.setIfInBounds_toArray, List.set_cons_zero, List.set_cons_succ]
          have b2 := h.box 1
          have b3 := b3.alloc (.cells #[.int .i64 1] 3)
          have h := h.alloc (.cells #[.int .i64 1] 3)
          generalize W89.alloc (.cells #[.int .i64 1] 3) = W105 at *
          generalize W89.heap.size = B105 at *
          refine wpAnyC_ready (rs := [8]) (by kernel_rfl) (by kernel_rfl) (by simp) ?_
          refine AllC.cons (o := _) (List.getElem?_toArray.trans rfl) (fun K hK => ?_) (AllC.nil)
          · go_simp
            refine hK.out _ _ (h.alloc _).cells (fun hHeld => ?_)
            clear hK K
            try simp only [Act.put, List.setIfInBounds_toArray, List.set_cons_zero, List.set_cons_succ]
            have b1 := h.box (i : Int)
            have b2 := b2.alloc (.cells #[.int .i64 (i : Int)] 3)
            have b3 := b3.alloc (.cells #[.int .i64 (i : Int)] 3)
            have h := h.alloc (.cells #[.int .i64 (i : Int)] 3)
            generalize W105.alloc (.cells #[.int .i64 (i : Int)] 3) = W106 at *
            generalize W105.heap.size = B106 at *
            refine wpAnyC_ready (rs := [9]) (by kernel_rfl) (by kernel_rfl) (by simp) ?_
            refine AllC.cons (o := _) (List.getElem?_toArray.trans rfl) (fun K hK => ?_) (AllC.nil)
            · refine app_row_step (w0 := w) w.heap.size (by rfl) (.tmp 25) (.tmp 27) (by rfl) (.slice AU i cU) _ (rngL i) [(i : Int)] (by rfl) (by rfl) h.u b1.rd h.bel h.bel.size (by rw [rng_len]; simp; omega) ?_
              intro v1 W107 H1 HB hg hat
              rw [rng_snoc] at H1
              have b2 := b2.appU hg hat
              have b3 := b3.appU hg hat
              have h := h.appU H1 HB hg hat
              obtain ⟨A1', c1', rfl, _, _⟩ := H1.rd
              rw [rng_len] at h b2 b3
              rw [rng_len]
              refine hK.out _ _ h.cells (fun hHeld => ?_)
              clear hK K H1 HB hg hat
              try simp only [Act.put, List.setIfInBounds_toArray, List.set_cons_zero, List.set_cons_succ]
              refine wpAnyC_ready (rs := [15]) (by kernel_rfl) (by kernel_rfl) (by simp) ?_
              refine AllC.cons (o := _) (List.getElem?_toArray.trans rfl) (fun K hK => ?_) (AllC.nil)
              · refine app_row_step (w0 := w) w.heap.size (by rfl) (.tmp 32) (.tmp 33) (by rfl) (.slice AS i cS) _ (oneL i) [1] (by rfl) (by rfl) h.s b2.rd h.bel h.bel.size (by rw [one_len]; simp; omega) ?_
                intro v2 W108 H1 HB hg hat
                rw [one_snoc] at H1
                have b3 := b3.appS hg hat
                have h := h.appS H1 HB hg hat
                obtain ⟨A2', c2', rfl, _, _⟩ := H1.rd
                rw [one_len] at h b3
                rw [one_len]
                refine hK.out _ _ h.cells (fun hHeld => ?_)
                clear hK K H1 HB hg hat
                try simp only [Act.put, List.setIfInBounds_toArray, List.set_cons_zero, List.set_cons_succ]
                refine wpAnyC_ready (rs := [22]) (by kernel_rfl) (by kernel_rfl) (by simp) ?_
                refine AllC.cons (o := _) (List.getElem?_toArray.trans rfl) (fun K hK => ?_) (AllC.nil)
                · refine app_row_step (w0 := w) w.heap.size (by rfl) (.tmp 38) (.tmp 40) (by rfl) (.slice AH i cH) _ (rngL i) [(i : Int)] (by rfl) (by rfl) h.h b3.rd h.bel h.bel.size (by rw [rng_len]; simp; omega) ?_
                  intro v3 W109 H1 HB hg hat
                  rw [rng_snoc] at H1
                  have h := h.appH H1 HB hg hat
                  obtain ⟨A3', c3', rfl, _, _⟩ := H1.rd
                  rw [rng_len] at h
                  rw [rng_len]
                  refine hK.out _ _ h.cells (fun hHeld => ?_)
                  clear hK K H1 HB hg hat
                  try simp only [Act.put, List.setIfInBounds_toArray, List.set_cons_zero, List.set_cons_succ]
                  refine wpAnyC_cut (by kernel_rfl) ?_
                  refine wpAny_of_held (S := fun _ => True) _ _ _ _ ?_
                  have hT : (fun _ : World => True) W109 := trivial
                  refine wpAnyH_take (i := 23) (oi := _) (v := ?_) (List.getElem?_toArray.trans rfl) (by kernel_rfl) (by kernel_rfl) (by kernel_rfl) (fun _ _ _ h => h) (Or.inl ⟨by rfl, ?_⟩) trivial ?_
                  rotate_left
                  · intro w hSw; (try dsimp only at hSw); go_simp <;> with_reducible rfl
                  try simp only [Act.put, List.setIfInBounds_toArray, List.set_cons_zero, List.set_cons_succ]
                  refine wpAnyH_take (i := 24) (oi := _) (v := ?_) (List.getElem?_toArray.trans rfl) (by kernel_rfl) (by kernel_rfl) (by kernel_rfl) (fun _ _ _ h => h) (Or.inl ⟨by rfl, ?_⟩) trivial ?_
                  rotate_left
                  · intro w hSw; (try dsimp only at hSw); go_simp <;> with_reducible rfl
                  try simp only [Act.put, List.setIfInBounds_toArray, List.set_cons_zero, List.set_cons_succ]
                  have e0 := blk_cell h.blk 0
                  have z0 := blk_frozen h.blk 0
                  refine wpAnyH_ready (rs := [25]) (by kernel_rfl) (by simp) ?_
                  refine AllReadyH.cons (o := _) (List.getElem?_toArray.trans rfl) (fun K hK => ?_) AllReadyH.nil
                  go_simp
                  refine hK.out _ _ trivial (fun hHeld => ?_)
                  clear hK K e0 z0
                  try simp only [Act.put, List.setIfInBounds_toArray, List.set_cons_zero, List.set_cons_succ]
                  have h := h.set 0 (.slice A1' (i + 1) c1') rfl
                  generalize W109.setCell ⟨w.heap.size, 0, none⟩ (.slice A1' (i + 1) c1') = W110 at *
                  refine wpAnyH_take (i := 26) (oi := _) (v := ?_) (List.getElem?_toArray.trans rfl) (by kernel_rfl) (by kernel_rfl) (by kernel_rfl) (fun _ _ _ h => h) (Or.inl ⟨by rfl, ?_⟩) trivial ?_
                  rotate_left
                  · intro w hSw; (try dsimp only at hSw); go_simp <;> with_reducible rfl
                  try simp only [Act.put, List.setIfInBounds_toArray, List.set_cons_zero, List.set_cons_succ]
                  refine wpAnyH_take (i := 27) (oi := _) (v := ?_) (List.getElem?_toArray.trans rfl) (by kernel_rfl) (by kernel_rfl) (by kernel_rfl) (fun _ _ _ h => h) (Or.inl ⟨by rfl, ?_⟩) trivial ?_
                  rotate_left
                  · intro w hSw; (try dsimp only at hSw); go_simp <;> with_reducible rfl
                  try simp only [Act.put, List.setIfInBounds_toArray, List.set_cons_zero, List.set_cons_succ]
                  have e1 := blk_cell h.blk 1
                  have z1 := blk_frozen h.blk 1
                  refine wpAnyH_ready (rs := [28]) (by kernel_rfl) (by simp) ?_
                  refine AllReadyH.cons (o := _) (List.getElem?_toArray.trans rfl) (fun K hK => ?_) AllReadyH.nil
                  go_simp
                  refine hK.out _ _ trivial (fun hHeld => ?_)
                  clear hK K e1 z1
                  try simp only [Act.put, List.setIfInBounds_toArray, List.set_cons_zero, List.set_cons_succ]
                  have h := h.set 1 (.slice A2' (i + 1) c2') rfl
                  generalize W110.setCell ⟨w.heap.size, 1, none⟩ (.slice A2' (i + 1) c2') = W111 at *
                  refine wpAnyH_take (i := 29) (oi := _) (v := ?_) (List.getElem?_toArray.trans rfl) (by kernel_rfl) (by kernel_rfl) (by kernel_rfl) (fun _ _ _ h => h) (Or.inl ⟨by rfl, ?_⟩) trivial ?_
                  rotate_left
                  · intro w hSw; (try dsimp only at hSw); go_simp <;> with_reducible rfl
                  try simp only [Act.put, List.setIfInBounds_toArray, List.set_cons_zero, List.set_cons_succ]
                  refine wpAnyH_take (i := 30) (oi := _) (v := ?_) (List.getElem?_toArray.trans rfl) (by kernel_rfl) (by kernel_rfl) (by kernel_rfl) (fun _ _ _ h => h) (Or.inl ⟨by rfl, ?_⟩) trivial ?_
                  rotate_left
                  · intro w hSw; (try dsimp only at hSw); go_simp <;> with_reducible rfl
                  try simp only [Act.put, List.setIfInBounds_toArray, List.set_cons_zero, List.set_cons_succ]
                  have e2 := blk_cell h.blk 2
                  have z2 := blk_frozen h.blk 2
                  refine wpAnyH_ready (rs := [31]) (by kernel_rfl) (by simp) ?_
                  refine AllReadyH.cons (o := _) (List.getElem?_toArray.trans rfl) (fun K hK => ?_) AllReadyH.nil
                  go_simp
                  refine hK.out _ _ trivial (fun hHeld => ?_)
                  clear hK K e2 z2
                  try simp only [Act.put, List.setIfInBounds_toArray, List.set_cons_zero, List.set_cons_succ]
                  have h := h.set 2 (.slice A3' (i + 1) c3') rfl
                  generalize W111.setCell ⟨w.heap.size, 2, none⟩ (.slice A3' (i + 1) c3') = W112 at *
                  refine wpAnyH_done (by kernel_rfl) ?_ _
                  go_wp2_with fail
                  go_roundw
                  case rel => exact ⟨i + 1, A1', A2', A3', c1', c2', c3', by go_num, by omega, h⟩
                  case measure => simp [intOf]; omega
    · obtain rfl : i = n := by omega
      go_wp2
      go_ret2
      exact ⟨_, _, _, rfl, h⟩
end Go.Proofs.YtkpadjhdneiniaaGreatDoor.Un
end

/- Uh: A union beside nothing else, as the laws use it; the example of the layer. -/
section
namespace Go.Proofs.YtkpadjhdneiniaaGreatDoor.Un
open Go.RowKit Go.Proofs.YtkpadjhdneiniaaGreatDoorW.PrintWords Go.Proofs.YtkpadjhdneiniaaGreatDoorW.PrintLast Go.Proofs.YtkpadjhdneiniaaGreatDoorW.PrintMore
open Go.Proofs.YtkpadjhdneiniaaGreatDoor.Base Go.Proofs.YtkpadjhdneiniaaGreatDoor.Map Go.Proofs.YtkpadjhdneiniaaGreatDoor.Ow
set_option linter.unusedVariables false

theorem st_own {w : World} {base : Nat} {u : Value} {ns : List Int} {F : Nat → Prop} (h : OwI w base u ns) (hF : ∀ k, F k → k < base) : ∀ W, Chg F w W → RdV W u ns := fun W hC =>
  OwI.toV (base := base) ⟨Kd.R_mono (Kd.R_step (Kd.R_bound h.out) (fun k hk hlt => hC.block k hlt (fun hf => by have := hF k hf; have := hk.2.1; omega))) (fun _ _ => trivial)⟩
theorem rng_canon (n : Nat) : Canon (rngL n) := ⟨fun i hi => by
  rw [rng_len] at hi
  exact ⟨i, rng_rd n i hi, Nat.le_refl _, rng_rd n i hi⟩⟩
theorem rng_cnt (n : Nat) : cntOf (rngL n) = n := by
  unfold cntOf
  rw [rng_len, countP_ext (q := fun _ => true) n (fun i hi => by simp [rng_rd n i hi])]
  simp
theorem Row.of_own {w : World} {base : Nat} {v : Value} {l : List Int} (h : OwI w base v l) : Row w v l := Kd.R_lower (base' := 0) ⟨fun k hk => hk, h.out.2⟩ (Nat.zero_le _)

/-- A union that the call has made since w0. -/
structure UT (w0 w : World) (p : Nat) (hs : List Int) : Prop where
  mk :: (out : ∃ F vU vS vH, Uni w F p vU vS vH hs ∧ (∀ k, F k → w0.heap.size ≤ k ∧ k < w.heap.size) ∧ Below w0.heap.size w0 w)
section
variable {w0 w w1 : World} {p : Nat} {hs ns : List Int}
theorem UT.bel (h : UT w0 w p hs) : Below w0.heap.size w0 w := by obtain ⟨F, vU, vS, vH, _, _, h⟩ := h; exact h
theorem UT.can (h : UT w0 w p hs) : Canon hs := by obtain ⟨F, vU, vS, vH, h, _⟩ := h; exact h.can
theorem UT.below (h : UT w0 w p hs) (hb : Below w.heap.size w w1) : UT w0 w1 p hs := by
  obtain ⟨F, vU, vS, vH, h1, h2, h3⟩ := h
  exact ⟨F, vU, vS, vH, h1.below hb, fun k hk => ⟨(h2 k hk).1, Nat.lt_of_lt_of_le (h2 k hk).2 hb.size⟩, below_then h3 h3.size hb⟩
@[simp] theorem UT.alloc (h : UT w0 w p hs) (o : Obj) : UT w0 (w.alloc o) p hs := h.below (below_alloc (Below.refl _ _) o)
@[simp] theorem UT.drew (h : UT w0 w p hs) : UT w0 w.drew p hs := h.below (below_drew (Below.refl _ _))
@[simp] theorem UT.drewN (h : UT w0 w p hs) (n : Nat) : UT w0 (w.drewN n) p hs := h.below (pw_below_drewN (Below.refl _ _) n)
theorem UT.next {F : Nat → Prop} {vU vS vH : Value} (h : Uni w1 F p vU vS vH hs) (hC : Chg F w w1) (h2 : ∀ k, F k → w0.heap.size ≤ k ∧ k < w.heap.size) (h3 : Below w0.heap.size w0 w) : UT w0 w1 p hs :=
  ⟨F, vU, vS, vH, h, fun k hk => ⟨(h2 k hk).1, Nat.lt_of_lt_of_le (h2 k hk).2 hC.size⟩, h3.trans (hC.below h3.size (fun k hk => (h2 k hk).1))⟩
end
theorem uni_new {w w' : World} {p n : Nat} {vU vS vH : Value} (h : NP w w' p n vU vS vH vU vS vH (rngL n) (oneL n) (rngL n)) : Uni w' (fun k => w.heap.size ≤ k ∧ k < w'.heap.size) p vU vS vH (rngL n) := by
  have hp : p < w'.heap.size := blk_lt h.blk
  refine ⟨rngL n, oneL n, rngL n, id, fun _ => 0, ⟨by rw [rng_cnt]; exact h.blk, Row.of_own h.u, Row.of_own h.s, Row.of_own h.h, fun k hk => ⟨(h.dU k hk).1, (h.dU k hk).2, (OwI.blk h.u hk).1, (OwI.blk h.u hk).2.1⟩, fun k hk => ⟨h.dS k hk, (OwI.blk h.s hk).1, (OwI.blk h.s hk).2.1⟩, fun k hk => ⟨(OwI.blk h.h hk).1, (OwI.blk h.h hk).2.1⟩, ⟨h.pb, hp⟩, by rw [one_len, rng_len], rfl⟩, ⟨fun i hi => ?_⟩, ⟨fun i hi => rfl, fun i j hi hj e => ?_, rng_canon n⟩, rfl⟩
  · rw [rng_len] at hi
    exact ⟨i, rng_rd n i hi, by rw [rng_len]; exact hi, rfl, by rw [rng_len]; exact hi, rng_rd n i hi, fun _ => rfl, fun e => absurd rfl e⟩
  · rw [rng_len] at hi hj
    rw [rng_rd n i hi, rng_rd n j hj] at e
    have e2 : i = j := by omega
    exact e2
theorem new_ut (w0 w : World) (hb : Below w0.heap.size w0 w) (n : Nat) (hn : n ≤ 65536) : Calls Tryz.prog 72 #[.int .i64 (n : Int)] w fun e w' => e = .returned (.tuple #[.pointer (some ⟨w.heap.size, 0, none⟩), .int .i64 0]) ∧ UT w0 w' w.heap.size (rngL n) :=
  (new_good n w hn).mono fun e w' ⟨vU, vS, vH, h1, h2⟩ => ⟨h1, ⟨_, vU, vS, vH, uni_new h2, fun k hk => ⟨Nat.le_trans hb.size hk.1, hk.2⟩, below_then hb hb.size h2.bel⟩⟩
theorem lit_st {w : World} {F : Nat → Prop} (xs : List Int) (hl : xs.length ≤ 1000) (hF : ∀ k, F k → k < w.heap.size) : ∀ W, Chg F (w.alloc (.cells (nums .i64 xs).toArray 3)) W → RdV W (.slice (some ⟨w.heap.size, 0, none⟩) xs.length xs.length) xs :=
  st_own (OwI.lit w xs (by omega)) hF
end Go.Proofs.YtkpadjhdneiniaaGreatDoor.Un
end
