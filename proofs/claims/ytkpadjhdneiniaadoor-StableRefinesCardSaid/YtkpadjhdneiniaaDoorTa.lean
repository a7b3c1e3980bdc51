/- Slices of texts that a call owns or reads: append, cuts, slices.Sort and Compact. -/
import Derived.Test.YtkpadjhdneiniaaDoorZa
namespace Go.Proofs.YtkpadjhdneiniaaDoor.Tx
set_option linter.unusedVariables false
open Go.RowKit Go.Proofs.YtkpadjhdneiniaaDoorW.PrintWords Go.Proofs.YtkpadjhdneiniaaDoorW.PrintLast Go.Proofs.YtkpadjhdneiniaaDoorW.PrintMore
open Go.Proofs.YtkpadjhdneiniaaDoor.Base Go.Proofs.YtkpadjhdneiniaaDoor.Map Go.Proofs.YtkpadjhdneiniaaDoor.Sl Go.Proofs.YtkpadjhdneiniaaDoor.Ow Go.Proofs.YtkpadjhdneiniaaDoor.Se Go.Proofs.YtkpadjhdneiniaaDoor.Gr Go.Sort

/-- a value that reads as texts -/
structure RdS (w : World) (v : Value) (l : List ByteArray) : Prop where mk :: (out : ∃ A c, v = .slice A l.length c ∧ l.length ≤ c ∧ RdT w A l)
/-- the call's own slice of texts, its block one of F -/
structure OwS (w : World) (F : Nat → Prop) (v : Value) (l : List ByteArray) : Prop where mk :: (out : Kd.R Kd.string 9 w 0 F v l)
theorem info9 : (Tryd.prog.info? 9).map (fun i => (i.zero, i.size, i.bytes)) = some (some (.string ⟨#[]⟩), 1, 16) := by kernel_rfl
theorem i9 : ∃ i, Tryd.prog.info? 9 = some i ∧ i.size = 1 := by
  obtain ⟨i0, hi, hzz⟩ := Option.map_eq_some_iff.1 info9
  simp only [Prod.mk.injEq] at hzz
  exact ⟨i0, hi, hzz.2.1⟩
section
variable {w w1 : World} {F F' : Nat → Prop} {v : Value} {l : List ByteArray}
theorem RdS.below (h : RdS w v l) (hb : Below w.heap.size w w1) : RdS w1 v l := by
  obtain ⟨A, c, h1, h2, h3⟩ := h
  exact ⟨A, c, h1, h2, h3.below hb⟩
theorem OwS.toV (h : OwS w F v l) : RdS w v l := by
  obtain ⟨A, c, h1, h2, h3⟩ := Kd.R_reads h.out
  exact ⟨A, c, h1, h2, ⟨h3⟩⟩
theorem OwS.mono (h : OwS w F v l) (hF : ∀ k, F k → F' k) : OwS w F' v l := ⟨Kd.R_mono h.out hF⟩
theorem OwS.below (h : OwS w F v l) (hb : Below w.heap.size w w1) : OwS w1 F v l := ⟨Kd.R_below h.out hb⟩
theorem OwS.chg {G : Nat → Prop} (h : OwS w F v l) (hC : Chg G w w1) (hd : ∀ k, F k → ¬ G k) : OwS w1 F v l := ⟨Kd.R_step h.out (fun k hk hlt => hC.block k hlt (hd k hk))⟩
theorem OwS.bound (h : OwS w F v l) : OwS w (fun k => F k ∧ k < w.heap.size) v l := ⟨Kd.R_mono (Kd.R_bound h.out) (fun k hk => ⟨hk.1, hk.2.2.1⟩)⟩
theorem OwS.nil (w : World) (F : Nat → Prop) : OwS w F (.slice none 0 0) [] := ⟨Kd.R_nil _ _ _ _ _⟩
theorem RdS.max (h : RdS w v l) : l.length ≤ 9223372036854775807 := by
  obtain ⟨A, c, _, _, h3⟩ := h
  exact h3.out.2.1
theorem OwS.max (h : OwS w F v l) : l.length ≤ 9223372036854775807 := h.toV.max
theorem RdS.nil (w : World) : RdS w (.slice none 0 0) [] := (OwS.nil w (fun _ => True)).toV
theorem OwS.form (h : OwS w F v l) : (v = .slice none 0 0 ∧ l = []) ∨ ∃ g cap cur, v = .slice (some ⟨g, 0, none⟩) l.length cap ∧ F g ∧ w.heap[g]? = some (.cells cur 9 (0, 0)) ∧ l.length ≤ cap ∧ cap ≤ maxLen ∧ cur.size = cap ∧ cur.toList.take l.length = l.map Value.string := by
  have ho := Kd.own_of_R h.out
  rcases ho.2 with ⟨h1, h0⟩ | ⟨g, cap, cur, hv, _, hg, h1, h2, h3, h4⟩
  · exact .inl ⟨h1, List.eq_nil_of_length_eq_zero h0⟩
  · exact .inr ⟨g, cap, cur, hv, h.out.1 g (by rw [hv]; rfl), hg, h1, h2, by omega, by rw [Nat.mul_one] at h4; exact h4⟩
theorem OwS.of_block {g cap : Nat} {cur : Array Value} (hF : F g) (hg : w.heap[g]? = some (.cells cur 9 (0, 0))) (h1 : l.length ≤ cap) (h2 : cap ≤ maxLen) (h3 : cur.size = cap) (h4 : cur.toList.take l.length = l.map Value.string) : OwS w F (.slice (some ⟨g, 0, none⟩) l.length cap) l :=
  ⟨Kd.R_of_own ⟨by simp [encs], .inr ⟨g, cap, cur, rfl, Nat.zero_le _, hg, h1, h2, by omega, by rw [Nat.mul_one]; exact h4⟩⟩ (fun k hk => by cases hk; exact hF)⟩
theorem RdS.lit {g : Nat} {cur : Array Value} (h : w.heap[g]? = some (.cells cur 9 (0, 0))) (hc : cur.toList = l.map Value.string) (hl : l.length ≤ 1000000) : RdS w (.slice (some ⟨g, 0, none⟩) l.length l.length) l :=
  ⟨_, _, rfl, Nat.le_refl _, Rf.rdT_lit h hc hl⟩
end
/-! append(v, ys...) -/
section
variable {ops : Array Oper} {rest : List Oper} {o : Oper} {a : Act} {Q : Exit → Act → World → Prop}
theorem appS {W : World} {G : Nat → Prop} (hgd : o.guard = none) (s x : Operand)
    (ho : o.op = .call { callee := .builtin .append, args := #[s, x], argTypes := #[22, 22] })
    (v u : Value) (xs ys : List ByteArray) (hs : a.eval s = v) (hx : a.eval x = u)
    (HO : OwS W G v xs) (HR : RdS W u ys) (hl : (xs.length + ys.length) * 16 ≤ 140737488355328)
    (h : ∀ v1 w1, OwS w1 (ext G W w1) v1 (xs ++ ys) → Chg G W w1 → wpList Tryd.prog ops Q rest (a.put o.dst v1) w1) :
    wpList Tryd.prog ops Q (o :: rest) a W := by
  obtain ⟨A, c, hu, _, HR⟩ := HR
  exact Kd.R_append_row Value.string ByteArray.empty (h1 := fun _ => rfl) (w0 := W) 0 hgd s x 22 9 (.string ⟨#[]⟩) 16 ho Tryd.underlying22 info9 rfl (by decide) v xs ys A _ c (fun k => G k ∨ W.heap.size ≤ k) hs (hx.trans hu) (fun _ hk => .inr hk) (Kd.R_mono HO.out (fun k hk => .inl hk)) HR.out (Below.refl _ _) (Nat.zero_le _) hl
    (fun v1 w1 ho hb hg hat => h v1 w1 ⟨Kd.R_mono (Kd.R_bound ho) (fun k hk => hk.1.elim .inl (fun h => .inr ⟨h, hk.2.2.1⟩))⟩ (Chg.of_grown hg (fun k hk => HO.out.1 k hk)))
end
/-! cuts -/
theorem cutS_from (A : Option Addr) (c : Nat) (l : List ByteArray) (j : Int) (h0 : 0 ≤ j) (hm : j ≤ l.length) (hc : l.length ≤ c) :
    ∃ (A' : Option Addr) (c' : Nat), (∀ W : World, (Instr.slice 22 (.slice A l.length c) (some (.int .i64 j)) none none).run Tryd.prog W = .ok (.slice A' (l.drop j.toNat).length c') W) ∧
      (∀ w : World, RdT w A l → RdS w (.slice A' (l.drop j.toNat).length c') (l.drop j.toNat)) := by
  obtain ⟨i0, hi, hs⟩ := i9
  obtain ⟨A', h1, h2, h3⟩ := print_drop_of (P := Tryd.prog) Value.string ByteArray.empty 22 9 .i64 Tryd.underlying22 hi hs A c l j h0 hm hc
  exact ⟨A', _, h1, fun w h => ⟨_, _, rfl, h3, ⟨Kd.C_of_reads (h1 := fun _ => rfl) (h2 w (Kd.reads_of_C h.out))⟩⟩⟩
theorem cutS_to (A : Option Addr) (c : Nat) (l : List ByteArray) (j : Int) (h0 : 0 ≤ j) (hm : j ≤ l.length) (hc : l.length ≤ c) :
    (∀ W : World, (Instr.slice 22 (.slice A l.length c) none (some (.int .i64 j)) none).run Tryd.prog W = .ok (.slice A (l.take j.toNat).length c) W) ∧
      (∀ w : World, RdT w A l → RdS w (.slice A (l.take j.toNat).length c) (l.take j.toNat)) := by
  obtain ⟨i0, hi, hs⟩ := i9
  obtain ⟨h1, h2, h3⟩ := print_take_of (P := Tryd.prog) Value.string ByteArray.empty 22 9 .i64 Tryd.underlying22 hi hs A c l j h0 hm hc
  exact ⟨h1, fun w h => ⟨_, _, rfl, h3, ⟨Kd.C_of_reads (h1 := fun _ => rfl) (h2 w (Kd.reads_of_C h.out))⟩⟩⟩
/-! Sort, Compact -/
abbrev toL (b : ByteArray) : List UInt8 := b.data.toList
theorem enc_toL (b : ByteArray) : encStr (toL b) = .string b := rfl
def ofL (l : List UInt8) : ByteArray := ⟨l.toArray⟩
theorem toL_ofL (l : List UInt8) : toL (ofL l) = l := rfl
theorem toL_inj {a b : ByteArray} (h : toL a = toL b) : a = b := by
  cases a; cases b; simp only [toL] at h
  congr 1; exact Array.toList_inj.1 h
theorem map_ofL (L : List (List UInt8)) : (L.map ofL).map toL = L := by rw [List.map_map]; exact List.map_id _
theorem enc_map (L : List (List UInt8)) : (L.map ofL).map Value.string = L.map encStr := by rw [List.map_map]; rfl
end Go.Proofs.YtkpadjhdneiniaaDoor.Tx
