/- A table of bools while it is made, and while pairs fall. -/
import Derived.Test.YtkpadjhdneiniaaDoorKs
namespace Go.Proofs.YtkpadjhdneiniaaDoor.Sb
set_option linter.unusedVariables false
open Go.RowKit Go.Proofs.YtkpadjhdneiniaaDoorW.PrintWords Go.Proofs.YtkpadjhdneiniaaDoorW.PrintLast Go.Proofs.YtkpadjhdneiniaaDoorW.PrintMore Go.Maps
open Go.Proofs.YtkpadjhdneiniaaDoor.Base Go.Proofs.YtkpadjhdneiniaaDoor.Map Go.Proofs.YtkpadjhdneiniaaDoor.Sl Go.Proofs.YtkpadjhdneiniaaDoor.Ow Go.Proofs.YtkpadjhdneiniaaDoor.Se Go.Proofs.YtkpadjhdneiniaaDoor.Gr Go.Proofs.YtkpadjhdneiniaaDoor.Rf Go.Proofs.YtkpadjhdneiniaaDoor.Tx Go.Proofs.YtkpadjhdneiniaaDoor.St

/-- slices as they stand -/
def encV (x : Nat × Nat) : Value := .slice (some ⟨x.1, 0, none⟩) x.2 x.2
abbrev kV : Kd (Nat × Nat) := Kd.scalar encV (fun _ => rfl)
theorem info62 : (Tryd.prog.info? 62).map (fun i => (i.zero, i.size, i.bytes)) = some (some (.slice none 0 0), 1, 24) := by kernel_rfl
theorem info4 : (Tryd.prog.info? 4).map (fun i => (i.zero, i.size, i.bytes)) = some (some (.bool false), 1, 1) := by kernel_rfl
/-- a row of n bools -/
def RowB (w : World) (b n : Nat) (f : Nat → Bool) : Prop := ∃ cur, w.heap[b]? = some (.cells cur 4 (0, 0)) ∧ cur.size = n ∧ ∀ k, k < n → cur[k]? = some (.bool (f k))
theorem RowB.blk {w w1 : World} {b n : Nat} {f : Nat → Bool} (h : RowB w b n f) (hb : w1.heap[b]? = w.heap[b]?) : RowB w1 b n f := by
  obtain ⟨cur, h1, h2, h3⟩ := h
  exact ⟨cur, hb.trans h1, h2, h3⟩
theorem RowB.lt {w : World} {b n : Nat} {f : Nat → Bool} (h : RowB w b n f) : b < w.heap.size := by obtain ⟨cur, h1, _⟩ := h; exact blk_lt h1
theorem RowB.below {w w1 : World} {b n : Nat} {f : Nat → Bool} (h : RowB w b n f) (hb : Below w.heap.size w w1) : RowB w1 b n f := h.blk (hb.block b h.lt)
theorem RowB.cell {w : World} {b n : Nat} {f : Nat → Bool} (h : RowB w b n f) {k : Nat} (hk : k < n) : w.cell? ⟨b, k, none⟩ = some (.bool (f k)) := by
  obtain ⟨cur, h1, h2, h3⟩ := h
  exact blk_cellD h1 k _ (h3 k hk)
theorem RowB.free {w : World} {b n : Nat} {f : Nat → Bool} (h : RowB w b n f) (k : Nat) : w.frozen? ⟨b, k, none⟩ = false := by
  obtain ⟨cur, h1, _⟩ := h
  exact blk_frozen h1 k
theorem RowB.set {w : World} {b n : Nat} {f : Nat → Bool} (h : RowB w b n f) (k : Nat) (q : Bool) : RowB (w.setCell ⟨b, k, none⟩ (.bool q)) b n (fun j => if j = k then q else f j) := by
  obtain ⟨cur, h1, h2, h3⟩ := h
  refine ⟨cur.setIfInBounds k (.bool q), blk_set h1 k _, by simp [h2], fun j hj => ?_⟩
  rw [Array.getElem?_setIfInBounds]
  by_cases e : k = j
  · subst e; rw [if_pos rfl, if_pos (by omega)]; simp
  · rw [if_neg e]
    show cur[j]? = some (Value.bool (if j = k then q else f j))
    rw [if_neg (fun h : j = k => e h.symm)]; exact h3 j hj
theorem RowB.far {w : World} {b n : Nat} {f : Nat → Bool} (h : RowB w b n f) {p : Addr} (hp : b ≠ p.block) (u : Value) : RowB (w.setCell p u) b n f := h.blk (Below.heap_setCell w p u b hp)
/-- rows of the call's own, as many as there are yet -/
structure OwM (w : World) (F1 F2 : Nat → Prop) (v : Value) (n m : Nat) (R : Nat → Nat) (one : Tbl) : Prop where
  outer : Kd.R kV 62 w 0 F1 v ((List.range m).map fun i => (R i, n))
  rows : ∀ i, i < m → F2 (R i) ∧ RowB w (R i) n (one i)
  inj : ∀ i k, i < m → k < m → R i = R k → i = k
section
variable {w w1 W : World} {F1 F2 : Nat → Prop} {v : Value} {n m : Nat} {R : Nat → Nat} {one : Tbl}
theorem OwM.nil (w : World) (n : Nat) (R : Nat → Nat) (one : Tbl) : OwM w (fun _ => False) (fun _ => False) (.slice none 0 0) n 0 R one := ⟨Kd.R_nil _ _ _ _ _, fun i h => absurd h (by omega), fun i k h => absurd h (by omega)⟩
theorem OwM.chg {G : Nat → Prop} (h : OwM w F1 F2 v n m R one) (hC : Chg G w w1) (h1 : ∀ k, F1 k → ¬ G k) (h2 : ∀ k, F2 k → ¬ G k) : OwM w1 F1 F2 v n m R one :=
  ⟨Kd.R_step h.outer (fun k hk hlt => hC.block k hlt (h1 k hk)), fun i hi => ⟨(h.rows i hi).1, (h.rows i hi).2.blk (hC.block _ (h.rows i hi).2.lt (h2 _ (h.rows i hi).1))⟩, h.inj⟩
theorem OwM.below (h : OwM w F1 F2 v n m R one) (hb : Below w.heap.size w w1) : OwM w1 F1 F2 v n m R one := h.chg (Chg.of_below hb (fun _ => False)) (fun _ _ h => h) (fun _ _ h => h)
theorem range_map_congr {f g : Nat → Nat × Nat} (h : ∀ i, i < m → f i = g i) : (List.range m).map f = (List.range m).map g := List.map_congr_left fun i hi => h i (List.mem_range.1 hi)
/-- one more row has been appended -/
theorem OwM.push (h : OwM W F1 F2 v n m R one) {rb : Nat} (hr : RowB W rb n (one m)) (hn : ¬ F2 rb) {v1 : Value} (hR : Kd.R kV 62 w1 0 (ext F1 W w1) v1 ((List.range m).map (fun i => (R i, n)) ++ [(rb, n)])) (hg : W.grownBy w1 v.ownBlock) :
    OwM w1 (ext F1 W w1) (fun k => F2 k ∨ k = rb) v1 n (m + 1) (fun i => if i = m then rb else R i) one := by
  have hto : ∀ b f, RowB W b n f → RowB w1 b n f := fun b f hb => hb.blk (hg.block b hb.lt (fun e => by
    obtain ⟨cur, h1, _⟩ := hb
    have ho := Kd.own_of_R h.outer
    exact own_ne ho h1 (by decide) e))
  refine ⟨?_, fun i hi => ?_, fun i k hi hk e => ?_⟩
  · have e : (List.range (m + 1)).map (fun i => ((fun i => if i = m then rb else R i) i, n)) = (List.range m).map (fun i => (R i, n)) ++ [(rb, n)] := by
      rw [List.range_succ, List.map_append]
      congr 1
      · exact range_map_congr fun i hi => by simp [show i ≠ m by omega]
      · simp
    rw [e]; exact hR
  · by_cases e : i = m
    · subst e
      simp only [if_true]
      exact ⟨.inr trivial, hto _ _ hr⟩
    · simp only [if_neg e]
      exact ⟨.inl (h.rows i (by omega)).1, hto _ _ (h.rows i (by omega)).2⟩
  · by_cases ei : i = m
    · by_cases ek : k = m
      · rw [ei, ek]
      · subst ei
        simp only [if_true, if_neg ek] at e
        exact absurd (e ▸ (h.rows k (by omega)).1) hn
    · by_cases ek : k = m
      · subst ek
        simp only [if_true, if_neg ei] at e
        exact absurd (e.symm ▸ (h.rows i (by omega)).1) hn
      · simp only [if_neg ei, if_neg ek] at e
        exact h.inj i k (by omega) (by omega) e
end
section
variable {ops : Array Oper} {rest : List Oper} {o : Oper} {a : Act} {Q : Exit → Act → World → Prop}
theorem appV {W : World} {G : Nat → Prop} (hgd : o.guard = none) (s x : Operand)
    (ho : o.op = .call { callee := .builtin .append, args := #[s, x], argTypes := #[61, 61] })
    (v : Value) (xs : List (Nat × Nat)) (y : Nat × Nat) (g : Nat) (hs : a.eval s = v) (hx : a.eval x = .slice (some ⟨g, 0, none⟩) 1 1)
    (HO : Kd.R kV 62 W 0 G v xs) (HR : W.cell? ⟨g, 0, none⟩ = some (encV y)) (hl : (xs.length + 1) * 24 ≤ 140737488355328)
    (h : ∀ v1 w1, Kd.R kV 62 w1 0 (ext G W w1) v1 (xs ++ [y]) → W.grownBy w1 v.ownBlock → Chg G W w1 → wpList Tryd.prog ops Q rest (a.put o.dst v1) w1) :
    wpList Tryd.prog ops Q (o :: rest) a W := by
  exact Kd.R_append_row encV (0, 0) (h1 := fun _ => rfl) (w0 := W) 0 hgd s x 61 62 (.slice none 0 0) 24 ho Tryd.underlying61 info62 rfl (by decide) v xs [y] (some ⟨g, 0, none⟩) 1 1 (fun k => G k ∨ W.heap.size ≤ k) hs hx (fun _ hk => .inr hk) (Kd.R_mono HO (fun k hk => .inl hk))
    (Kd.C_of_reads (enc := encV) (d := (0, 0)) (h1 := fun _ => rfl) ⟨rfl, by decide, fun _ => ⟨_, rfl, fun j hj => by
      obtain rfl : j = 0 := by omega
      exact HR⟩⟩) (Below.refl _ _) (Nat.zero_le _) hl
    (fun v1 w1 ho hb hg hat => h v1 w1 (Kd.R_mono (Kd.R_bound ho) (fun k hk => hk.1.elim .inl (fun h => .inr ⟨h, hk.2.2.1⟩))) hg (Chg.of_grown hg (fun k hk => HO.1 k hk)))
end
/-- the whole table: n rows of n; nothing of it is older than base -/
structure RT (w : World) (base : Nat) (v : Value) (n : Nat) (R : Nat → Nat) (one : Tbl) : Prop where
  mk :: (out : n = 0 ∨ ∃ g c co, v = .slice (some ⟨g, 0, none⟩) n c ∧ n ≤ c ∧ w.heap[g]? = some (.cells co 62 (0, 0)) ∧ (∀ i, i < n → co[i]? = some (.slice (some ⟨R i, 0, none⟩) n n)) ∧ (∀ i, i < n → base ≤ R i ∧ RowB w (R i) n (one i)) ∧ ∀ i k, i < n → k < n → R i = R k → i = k)
theorem OwM.rt {w : World} {F1 F2 : Nat → Prop} {v : Value} {n base : Nat} {R : Nat → Nat} {one : Tbl} (h : OwM w F1 F2 v n n R one) (h2 : ∀ k, F2 k → base ≤ k) : RT w base v n R one := by
  rcases Nat.eq_zero_or_pos n with h0 | h0
  · exact ⟨.inl h0⟩
  have ho := Kd.own_of_R h.outer
  rcases ho.2 with ⟨h1, h3⟩ | ⟨g, cap, cur, hv, _, hg, h3, h4, h5, h6⟩
  · simp at h3; omega
  · have hl : ((List.range n).map fun i => (R i, n)).length = n := by simp
    rw [hl] at hv h3 h6
    refine ⟨.inr ⟨g, cap, cur, hv, h3, hg, fun i hi => ?_, fun i hi => ⟨h2 _ (h.rows i hi).1, (h.rows i hi).2⟩, h.inj⟩⟩
    rw [Nat.mul_one] at h6
    have h7 := congrArg (fun l => l[i]?) h6
    simp only [List.getElem?_take, if_pos hi] at h7
    rw [← Array.getElem?_toList, h7]
    simp [encs, encV, hi]
section
variable {w w1 : World} {base : Nat} {v : Value} {n : Nat} {R : Nat → Nat} {one : Tbl}
theorem RT.below (h : RT w base v n R one) (hb : Below w.heap.size w w1) : RT w1 base v n R one := by
  rcases h.out with h | ⟨g, c, co, h1, h2, h3, h4, h5, h6⟩
  · exact ⟨.inl h⟩
  · exact ⟨.inr ⟨g, c, co, h1, h2, Ow.blk_below h3 hb, h4, fun i hi => ⟨(h5 i hi).1, (h5 i hi).2.below hb⟩, h6⟩⟩
theorem RT.rd (h : RT w base v n R one) (h0 : 0 < n) : RdM w v n one := by
  rcases h.out with h | ⟨g, c, co, h1, h2, h3, h4, h5, h6⟩
  · omega
  · exact ⟨g, c, R, h1, h2, fun i hi => ⟨blk_cellD h3 i _ (h4 i hi), fun k hk => (h5 i hi).2.cell hk⟩⟩
/-- what one round reads and writes -/
theorem RT.at_ (h : RT w base v n R one) {i k : Nat} (hi : i < n) (hk : k < n) : ∃ g c, v = .slice (some ⟨g, 0, none⟩) n c ∧ w.cell? ⟨g, i, none⟩ = some (.slice (some ⟨R i, 0, none⟩) n n) ∧ w.cell? ⟨g, k, none⟩ = some (.slice (some ⟨R k, 0, none⟩) n n) ∧ w.cell? ⟨R i, k, none⟩ = some (.bool (one i k)) ∧ w.cell? ⟨R k, i, none⟩ = some (.bool (one k i)) ∧ w.frozen? ⟨R i, k, none⟩ = false ∧ w.frozen? ⟨R k, i, none⟩ = false ∧ g ≠ R i ∧ g ≠ R k := by
  rcases h.out with h | ⟨g, c, co, h1, h2, h3, h4, h5, h6⟩
  · omega
  · have hne : ∀ j, j < n → g ≠ R j := fun j hj e => by
      obtain ⟨cur, e1, _⟩ := (h5 j hj).2
      rw [← e, h3] at e1; cases e1
    exact ⟨g, c, h1, blk_cellD h3 i _ (h4 i hi), blk_cellD h3 k _ (h4 k hk), (h5 i hi).2.cell hk, (h5 k hk).2.cell hi, (h5 i hi).2.free k, (h5 k hk).2.free i, hne i hi, hne k hk⟩
def set1 (one : Tbl) (i k : Nat) (q : Bool) : Tbl := fun a b => if a = i ∧ b = k then q else one a b
theorem RT.set (h : RT w base v n R one) {i : Nat} (hi : i < n) (k : Nat) (q : Bool) : RT (w.setCell ⟨R i, k, none⟩ (.bool q)) base v n R (set1 one i k q) := by
  rcases h.out with h | ⟨g, c, co, h1, h2, h3, h4, h5, h6⟩
  · omega
  · have hne : g ≠ R i := fun e => by
      obtain ⟨cur, e1, _⟩ := (h5 i hi).2
      rw [← e, h3] at e1; cases e1
    refine ⟨.inr ⟨g, c, co, h1, h2, blk_far h3 hne _, h4, fun j hj => ⟨(h5 j hj).1, ?_⟩, h6⟩⟩
    by_cases e : j = i
    · subst e
      have h7 := (h5 j hj).2.set k q
      have e2 : (fun b => if b = k then q else one j b) = set1 one j k q j := by funext b; unfold set1; simp
      rw [e2] at h7; exact h7
    · have h7 := (h5 j hj).2.far (p := ⟨R i, k, none⟩) (fun e2 => e (h6 j i hj hi e2)) (.bool q)
      have e2 : one j = set1 one i k q j := by funext b; unfold set1; simp [e]
      rw [← e2]; exact h7
theorem RT.old (h : RT w base v n R one) {i : Nat} (hi : i < n) : base ≤ R i := by
  rcases h.out with h | ⟨g, c, co, h1, h2, h3, h4, h5, h6⟩
  · omega
  · exact (h5 i hi).1
theorem drop2_set (one : Tbl) (i k : Nat) : set1 (set1 one i k false) k i false = drop2 one i k := by
  funext a b
  unfold set1 drop2
  by_cases h1 : a = k ∧ b = i
  · rw [if_pos h1, if_pos (.inr h1)]
  · rw [if_neg h1]
    by_cases h2 : a = i ∧ b = k
    · rw [if_pos h2, if_pos (.inl h2)]
    · rw [if_neg h2, if_neg (fun h => h.elim h2 h1)]
theorem RT.ext {one' : Tbl} (h : RT w base v n R one) (e : one = one') : RT w base v n R one' := e ▸ h
end
theorem mk_row (n : Nat) (hn : n ≤ 1000000) : ∀ W : World, (Instr.makeSlice 62 (.int .i64 (n : Int)) (.int .i64 (n : Int))).run Tryd.prog W = .ok (.slice (some ⟨W.heap.size, 0, none⟩) n n) (W.alloc (.cells (madeCells #[.bool false] n) 4)) :=
  fun W => run_make_row' 62 4 (.bool false) 1 Tryd.underlying62 info4 rfl .i64 .i64 n (by omega) (by omega) W
theorem row_made (W : World) (n : Nat) : RowB (W.alloc (.cells (madeCells #[.bool false] n) 4)) W.heap.size n (fun _ => false) :=
  ⟨_, heap_alloc_new _ _, by simp [size_madeCells], fun k hk => by simp [madeCells, hk, Nat.mod_one]⟩
end Go.Proofs.YtkpadjhdneiniaaDoor.Sb
