/- texts: a number's, a context's. -/
import Derived.Test.YtkbbliicijnpjaaDoorShelf
import Derived.Test.YtkbbliicijnpjaaDoorCc
import Derived.Lib.ItoaLen
import Derived.Lib.SmallJoins
namespace Go.Proofs.YtkbbliicijnpjaaDoor.Tx
open Go.RowKit Go.Proofs.YtkbbliicijnpjaaDoorW.PrintWords Go.Proofs.YtkbbliicijnpjaaDoorW.PrintLast Go.Proofs.YtkbbliicijnpjaaDoorW.PrintMore
open Go.Proofs.YtkbbliicijnpjaaDoor.Base Go.Proofs.YtkbbliicijnpjaaDoor.Ca
set_option linter.unusedVariables false

/-- the powers of ten lie where start-up laid them -/
structure P10 (w : World) : Prop where mk :: (out : Lib.TabIs Tryd.prog w "internal/strconv.uint64pow10" .u64 Lib.pow10Tab)
theorem g10 : Tryd.prog.globalNamed "internal/strconv.uint64pow10" = some 2 := by kernel_rfl
theorem P10.below {w w1 : World} (h : P10 w) (hb : Below w.heap.size w w1) : P10 w1 := ⟨Go.Joins.tab_stays g10 h.out hb (Nat.le_refl _)⟩
def itoaS (n : Int) : ByteArray := ⟨(Lib.itoa n).toArray⟩
theorem wf_i64 {n : Int} (h : (Lit.int .i64 n).wf = true) : -9223372036854775808 ≤ n ∧ n ≤ 9223372036854775807 := by
  have e : IntKind.i64.min = -9223372036854775808 := by decide
  have h2 : IntKind.i64.min ≤ n ∧ n ≤ 9223372036854775807 := by simpa [Lit.wf] using h
  rw [e] at h2
  exact h2
theorem itoaS_le {n : Int} (h : (Lit.int .i64 n).wf = true) : (itoaS n).size ≤ 21 := by
  have := Lib.itoa_length_le n (wf_i64 h).1 (wf_i64 h).2
  show (Lib.itoa n).toArray.size ≤ 21
  simpa using this
theorem grow_below (w : World) (k : Nat) (os : Array Obj) : Below w.heap.size w (Sort.grow (w.drewN k) os) :=
  ⟨rfl, rfl, rfl, by show w.heap.size ≤ (w.heap ++ os).size; rw [Array.size_append]; omega, fun j hj => by
    show (w.heap ++ os)[j]? = w.heap[j]?
    rw [Array.getElem?_append_left hj]⟩
theorem itoa_any (n : Int) (w : World) (h : P10 w) (hw : (Lit.int .i64 n).wf = true) : Calls Tryd.prog 48 #[.int .i64 n] w fun e w' => e = .returned (.string (itoaS n)) ∧ Below w.heap.size w w' :=
  (Tryd.strconv_Itoa n (wf_i64 hw).1 (wf_i64 hw).2 w h.out).mono fun e w' ⟨h1, k, os, h2⟩ => ⟨h1, by rw [h2]; exact grow_below w k os⟩

/-- the call's own row of texts -/
structure OwS (w : World) (base : Nat) (v : Value) (l : List ByteArray) : Prop where mk :: (out : Kd.R Kd.string 9 w base (fun _ => True) v l)
theorem OwS.below {w w1 : World} {base : Nat} {v : Value} {l : List ByteArray} (h : OwS w base v l) (hb : Below w.heap.size w w1) : OwS w1 base v l := ⟨Kd.R_below h.out hb⟩
theorem OwS.nil (w : World) (base : Nat) : OwS w base (.slice none 0 0) [] := ⟨Kd.R_nil _ _ _ _ _⟩
theorem C_one {w : World} {g : Nat} {y : ByteArray} (h : w.cell? ⟨g, 0, none⟩ = some (.string y)) : Kd.C Kd.string w (some ⟨g, 0, none⟩) 1 [y] :=
  Kd.C_of_reads (enc := Value.string) (d := ByteArray.empty) (h1 := fun _ => rfl) ⟨rfl, by decide, fun _ => ⟨_, rfl, fun j hj => by
    obtain rfl : j = 0 := by omega
    exact h⟩⟩
section
variable {ops : Array Oper} {rest : List Oper} {o : Oper} {a : Act} {Q : Exit → Act → World → Prop}
theorem appS {wb W : World} (hgd : o.guard = none) (s x : Operand)
    (ho : o.op = .call { callee := .builtin .append, args := #[s, x], argTypes := #[74, 74] })
    (v : Value) (g c : Nat) (xs : List ByteArray) (y : ByteArray) (hs : a.eval s = v) (hx : a.eval x = .slice (some ⟨g, 0, none⟩) 1 c)
    (HO : OwS W wb.heap.size v xs) (HR : W.cell? ⟨g, 0, none⟩ = some (.string y)) (HB : Below wb.heap.size wb W) (hl : (xs.length + 1) * 16 ≤ 140737488355328)
    (h : ∀ v1 w1, OwS w1 wb.heap.size v1 (xs ++ [y]) → Below wb.heap.size wb w1 → wpList Tryd.prog ops Q rest (a.put o.dst v1) w1) :
    wpList Tryd.prog ops Q (o :: rest) a W :=
  Kd.R_append_row Value.string ByteArray.empty (h1 := fun _ => rfl) (w0 := wb) wb.heap.size hgd s x 74 9 (.string ⟨#[]⟩) 16 ho Tryd.underlying74 PLexNames.info9 rfl (by decide) v xs [y] (some ⟨g, 0, none⟩) 1 c (fun _ => True) hs hx (fun _ _ => trivial) HO.out (C_one HR) HB HB.size hl
    (fun v1 w1 ho hb hg hat => h v1 w1 ⟨ho⟩ hb)
end
end Go.Proofs.YtkbbliicijnpjaaDoor.Tx
