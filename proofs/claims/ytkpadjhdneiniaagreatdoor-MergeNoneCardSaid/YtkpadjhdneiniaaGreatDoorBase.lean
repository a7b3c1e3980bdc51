/- Words that all walks of this seat use: facts of the types' table, slices of whole numbers that are read, cut, made. -/
import Derived.Test.YtkpadjhdneiniaaGreatDoorProg
import Derived.Test.YtkpadjhdneiniaaGreatDoorWTab
import Derived.Test.YtkpadjhdneiniaaGreatDoorWLast
import Derived.WalkLawsBesides
import Derived.WalkSpells
import Derived.Lib.SliceRun
import Derived.Deep.RegionHeld3
import Derived.Deep.DeepCutAuto
import Derived.Deep.CutBlock
namespace Go.Proofs.YtkpadjhdneiniaaGreatDoor.Base
open Go.RowKit Go.Proofs.YtkpadjhdneiniaaGreatDoorW.PrintWords Go.Proofs.YtkpadjhdneiniaaGreatDoorW.PrintLast Go.Proofs.YtkpadjhdneiniaaGreatDoorW.PrintMore

theorem info3 : (Tryz.prog.info? 3).map (fun i => (i.zero, i.size, i.bytes)) = some (some (.int .i64 0), 1, 8) := by kernel_rfl
theorem i3 : ∃ i, Tryz.prog.info? 3 = some i ∧ i.size = 1 := by
  obtain ⟨i0, hi, hzz⟩ := Option.map_eq_some_iff.1 info3
  simp only [Prod.mk.injEq] at hzz
  exact ⟨i0, hi, hzz.2.1⟩

/-- A slice of ints, read. -/
structure RdI (w : World) (A : Option Addr) (l : List Int) : Prop where mk :: (out : Kd.C (Kd.int .i64) w A l.length l)
/-- A slice of ints, made by the call: its block is base or newer. -/
structure OwI (w : World) (base : Nat) (v : Value) (l : List Int) : Prop where mk :: (out : Kd.R (Kd.int .i64) 3 w base (fun _ => True) v l)

section
variable {w w1 : World} {A : Option Addr} {base : Nat} {v : Value} {l : List Int}
theorem RdI.below (h : RdI w A l) (hb : Below w.heap.size w w1) : RdI w1 A l := ⟨Kd.C_below h.out hb⟩
@[simp] theorem RdI.alloc (h : RdI w A l) (o : Obj) : RdI (w.alloc o) A l := ⟨Kd.C_alloc h.out o⟩
@[simp] theorem RdI.drew (h : RdI w A l) : RdI w.drew A l := ⟨Kd.C_drew h.out⟩
@[simp] theorem RdI.drewN (h : RdI w A l) (n : Nat) : RdI (w.drewN n) A l := ⟨Kd.C_drewN h.out n⟩
theorem OwI.below (h : OwI w base v l) (hb : Below w.heap.size w w1) : OwI w1 base v l := ⟨Kd.R_below h.out hb⟩
@[simp] theorem OwI.alloc (h : OwI w base v l) (o : Obj) : OwI (w.alloc o) base v l := ⟨Kd.R_alloc h.out o⟩
@[simp] theorem OwI.drew (h : OwI w base v l) : OwI w.drew base v l := ⟨Kd.R_drew h.out⟩
@[simp] theorem OwI.drewN (h : OwI w base v l) (n : Nat) : OwI (w.drewN n) base v l := ⟨Kd.R_drewN h.out n⟩
theorem OwI.lower {base' : Nat} (h : OwI w base v l) (hb : base' ≤ base) : OwI w base' v l := ⟨Kd.R_lower h.out hb⟩
/-- a store below what is owned -/
theorem OwI.far (h : OwI w base v l) {p : Addr} (hp : p.block < base) (u : Value) : OwI (w.setCell p u) base v l :=
  ⟨Kd.R_mono (Kd.R_far (Kd.R_bound h.out) (fun k hk e => by have := hk.2.1; omega) u) (fun _ _ => trivial)⟩
theorem OwI.nil (w : World) (base : Nat) : OwI w base (.slice none 0 0) [] := ⟨Kd.R_nil _ _ _ _ _⟩
/-- What is owned reads. -/
theorem OwI.rd (h : OwI w base v l) : ∃ A c, v = .slice A l.length c ∧ l.length ≤ c ∧ RdI w A l := by
  obtain ⟨A, c, h1, h2, h3⟩ := Kd.R_reads h.out
  exact ⟨A, c, h1, h2, ⟨h3⟩⟩
theorem RdI.max (h : RdI w A l) : l.length ≤ 9223372036854775807 := Kd.C_max h.out
theorem RdI.at_ (h : RdI w A l) (i : Int) (h0 : 0 ≤ i) (h1 : i < l.length) : ∃ ad, A = some ad ∧ w.cell? (ad.add i.toNat) = some (.int .i64 (rd l i)) := Kd.at_int h.out i h0 h1
theorem RdI.nil (w : World) (A : Option Addr) : RdI w A [] := ⟨⟨rfl, by simp, fun h => absurd h (Nat.lt_irrefl 0)⟩⟩
/-- a value that reads as a slice of ints -/
structure RdV (w : World) (v : Value) (l : List Int) : Prop where mk :: (out : ∃ A c, v = .slice A l.length c ∧ l.length ≤ c ∧ RdI w A l)
theorem RdV.below (h : RdV w v l) (hb : Below w.heap.size w w1) : RdV w1 v l := by obtain ⟨A, c, e, hc, hr⟩ := h; exact ⟨A, c, e, hc, hr.below hb⟩
@[simp] theorem RdV.alloc (h : RdV w v l) (o : Obj) : RdV (w.alloc o) v l := by obtain ⟨A, c, e, hc, hr⟩ := h; exact ⟨A, c, e, hc, hr.alloc o⟩
@[simp] theorem RdV.drew (h : RdV w v l) : RdV w.drew v l := by obtain ⟨A, c, e, hc, hr⟩ := h; exact ⟨A, c, e, hc, hr.drew⟩
@[simp] theorem RdV.drewN (h : RdV w v l) (n : Nat) : RdV (w.drewN n) v l := by obtain ⟨A, c, e, hc, hr⟩ := h; exact ⟨A, c, e, hc, hr.drewN n⟩
theorem RdI.toV (h : RdI w A l) {c : Nat} (hc : l.length ≤ c) : RdV w (.slice A l.length c) l := ⟨⟨A, c, rfl, hc, h⟩⟩
theorem OwI.toV (h : OwI w base v l) : RdV w v l := ⟨h.rd⟩
theorem RdV.nil (w : World) : RdV w (.slice none 0 0) [] := ⟨⟨none, 0, rfl, Nat.le_refl _, RdI.nil w none⟩⟩
theorem RdV.max (h : RdV w v l) : l.length ≤ 9223372036854775807 := by obtain ⟨A, c, e, hc, hr⟩ := h; exact hr.max
/-- one cell that is there reads as a slice of one -/
theorem RdI.one {a : Addr} {x : Int} (h : w.cell? a = some (.int .i64 x)) : RdI w (some a) [x] :=
  ⟨Kd.C_of_reads (d := (0 : Int)) (h1 := fun _ => rfl) ⟨rfl, by simp, fun _ => ⟨a, rfl, fun j hj => by
    have : j = 0 := by simp at hj; omega
    subst this
    simpa [Addr.add] using h⟩⟩⟩
theorem RdV.one {a : Addr} {x : Int} (h : w.cell? a = some (.int .i64 x)) : RdV w (.slice (some a) 1 1) [x] := (RdI.one h).toV (l := [x]) (c := 1) (Nat.le_refl _)
end

attribute [simp] below_alloc below_drew pw_below_drewN
@[simp] theorem below_setCell {B : Nat} {a w : World} (h : Below B a w) {p : Addr} (hp : B ≤ p.block) (u : Value) : Below B a (w.setCell p u) := h.setCell hp u

theorem bel_cell {wb W : World} (hb : Below wb.heap.size wb W) {b o : Nat} {v : Value} (h : wb.cell? ⟨b, o, none⟩ = some v) : W.cell? ⟨b, o, none⟩ = some v := pw_cell_below hb h
theorem bel_trans {wb W w1 : World} (hb : Below wb.heap.size wb W) (h : Below W.heap.size W w1) : Below wb.heap.size wb w1 := below_then hb hb.size h

theorem R_empty (w : World) : OwI (w.alloc (.cells #[] 3)) w.heap.size (.slice (some ⟨w.heap.size, 0, none⟩) 0 0) [] :=
  ⟨Kd.R_of_own (World.ownsRow_made w #[] 0 (Nat.le_refl _) (by simp [maxLen]) (by simp)) (fun _ _ => trivial)⟩

/-- a literal -/
theorem OwI.lit (W : World) (xs : List Int) (hm : xs.length ≤ 9223372036854775807) : OwI (W.alloc (.cells (nums .i64 xs).toArray 3)) W.heap.size (.slice (some ⟨W.heap.size, 0, none⟩) xs.length xs.length) xs :=
  ⟨Kd.R_of_own (own_lit W W.heap.size 3 .i64 xs (Nat.le_refl _) hm) (fun _ _ => trivial)⟩

/-- l[j:] -/
theorem cut_from (A : Option Addr) (c : Nat) (l : List Int) (j : Int) (h0 : 0 ≤ j) (hm : j ≤ l.length) (hc : l.length ≤ c) :
    ∃ (A' : Option Addr) (c' : Nat), (∀ W : World, (Instr.slice 26 (.slice A l.length c) (some (.int .i64 j)) none none).run Tryz.prog W = .ok (.slice A' (l.drop j.toNat).length c') W) ∧
      (∀ w : World, RdI w A l → RdV w (.slice A' (l.drop j.toNat).length c') (l.drop j.toNat)) := by
  obtain ⟨i0, hi, hs⟩ := i3
  obtain ⟨A', h1, h2, h3⟩ := print_drop_of (P := Tryz.prog) (Value.int .i64) (0 : Int) 26 3 .i64 Tryz.underlying26 hi hs A c l j h0 hm hc
  exact ⟨A', _, h1, fun w h => RdI.toV ⟨Kd.C_of_reads (h1 := fun _ => rfl) (h2 w (Kd.reads_of_C h.out))⟩ h3⟩

/-! append(v, ys...), v the call's own, ys read -/
section
variable {ops : Array Oper} {rest : List Oper} {o : Oper} {a : Act} {Q : Exit → Act → World → Prop} {Kc : Act → World → Prop}
theorem app_row {w0 W : World} (base : Nat) (hgd : o.guard = none) (s x : Operand)
    (ho : o.op = .call { callee := .builtin .append, args := #[s, x], argTypes := #[26, 26] })
    (v u : Value) (xs ys : List Int) (hs : a.eval s = v) (hx : a.eval x = u)
    (HO : OwI W base v xs) (HR : RdV W u ys) (HB : Below base w0 W) (hbase : base ≤ W.heap.size) (hl : (xs.length + ys.length) * 8 ≤ 140737488355328)
    (h : ∀ v1 w1, OwI w1 base v1 (xs ++ ys) → Below base w0 w1 → W.grownBy w1 v.ownBlock → (v1.ownBlock = v.ownBlock ∨ ∃ b, v1.ownBlock = some b ∧ W.heap.size ≤ b) → wpList Tryz.prog ops Q rest (a.put o.dst v1) w1) :
    wpList Tryz.prog ops Q (o :: rest) a W := by
  obtain ⟨A, c, hu, _, HR⟩ := HR
  exact Kd.R_append_row (Value.int .i64) (0 : Int) (h1 := fun _ => rfl) (w0 := w0) base hgd s x 26 3 (.int .i64 0) 8 ho Tryz.underlying26 info3 rfl (by decide) v xs ys A _ c (fun _ => True) hs (hx.trans hu) (fun _ _ => trivial) HO.out HR.out HB hbase hl
    (fun v1 w1 ho hb hg hat => h v1 w1 ⟨ho⟩ hb hg hat)
theorem app_row_step {w0 W : World} (base : Nat) (hw : Region.wanted o (yielded ops a.tmps) = true) (s x : Operand)
    (ho : o.op = .call { callee := .builtin .append, args := #[s, x], argTypes := #[26, 26] })
    (v u : Value) (xs ys : List Int) (hs : a.eval s = v) (hx : a.eval x = u)
    (HO : OwI W base v xs) (HR : RdV W u ys) (HB : Below base w0 W) (hbase : base ≤ W.heap.size) (hl : (xs.length + ys.length) * 8 ≤ 140737488355328)
    (h : ∀ v1 w1, OwI w1 base v1 (xs ++ ys) → Below base w0 w1 → W.grownBy w1 v.ownBlock → (v1.ownBlock = v.ownBlock ∨ ∃ b, v1.ownBlock = some b ∧ W.heap.size ≤ b) → Kc (a.put o.dst v1) w1) :
    if Region.wanted o (yielded ops a.tmps) = true then Oper.wp Tryz.prog o a W Kc Q else Kc (a.put o.dst undef) W := by
  obtain ⟨A, c, hu, _, HR⟩ := HR
  exact Kd.R_append_rows_step (Kd.int .i64) (w0 := w0) base hw s x 26 3 (.int .i64 0) 8 ho Tryz.underlying26 info3 rfl (by decide) (by decide) v xs ys A _ c (fun _ => True) (fun _ => False) hs (hx.trans hu) HO.out HR.out (fun _ _ hk => hk) (fun _ hk => hk.elim) (fun _ _ => trivial) HB hbase hl
    (fun v1 w1 ho hb hg hat => h v1 w1 ⟨ho⟩ hb hg hat)
/-- the same where all is said from a first world wb on -/
theorem app_stepB {wb W : World} (hw : Region.wanted o (yielded ops a.tmps) = true) (s x : Operand)
    (ho : o.op = .call { callee := .builtin .append, args := #[s, x], argTypes := #[26, 26] })
    (v u : Value) (xs ys : List Int) (hs : a.eval s = v) (hx : a.eval x = u)
    (HO : OwI W wb.heap.size v xs) (HR : RdV W u ys) (HB : Below wb.heap.size wb W) (hl : (xs.length + ys.length) * 8 ≤ 140737488355328)
    (h : ∀ v1 w1, OwI w1 wb.heap.size v1 (xs ++ ys) → Below wb.heap.size wb w1 → W.grownBy w1 v.ownBlock → (v1.ownBlock = v.ownBlock ∨ ∃ b, v1.ownBlock = some b ∧ W.heap.size ≤ b) → Kc (a.put o.dst v1) w1) :
    if Region.wanted o (yielded ops a.tmps) = true then Oper.wp Tryz.prog o a W Kc Q else Kc (a.put o.dst undef) W :=
  app_row_step (w0 := wb) wb.heap.size hw s x ho v u xs ys hs hx HO HR HB HB.size hl h
theorem appB {wb W : World} (hgd : o.guard = none) (s x : Operand)
    (ho : o.op = .call { callee := .builtin .append, args := #[s, x], argTypes := #[26, 26] })
    (v u : Value) (xs ys : List Int) (hs : a.eval s = v) (hx : a.eval x = u)
    (HO : OwI W wb.heap.size v xs) (HR : RdV W u ys) (HB : Below wb.heap.size wb W) (hl : (xs.length + ys.length) * 8 ≤ 140737488355328)
    (h : ∀ v1 w1, OwI w1 wb.heap.size v1 (xs ++ ys) → Below wb.heap.size wb w1 → W.grownBy w1 v.ownBlock → (v1.ownBlock = v.ownBlock ∨ ∃ b, v1.ownBlock = some b ∧ W.heap.size ≤ b) → wpList Tryz.prog ops Q rest (a.put o.dst v1) w1) :
    wpList Tryz.prog ops Q (o :: rest) a W := app_row (w0 := wb) wb.heap.size hgd s x ho v u xs ys hs hx HO HR HB HB.size hl h
end
end Go.Proofs.YtkpadjhdneiniaaGreatDoor.Base
