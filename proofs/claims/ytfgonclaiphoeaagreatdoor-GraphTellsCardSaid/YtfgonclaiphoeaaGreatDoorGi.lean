/- graph.Reach. -/
import Derived.Test.YtfgonclaiphoeaaGreatDoorGh
import Derived.Deep.LoopGhost
namespace Go.Proofs.YtfgonclaiphoeaaGreatDoor.Gr
set_option linter.unusedVariables false
open Go.RowKit Go.Proofs.YtfgonclaiphoeaaGreatDoorW.PrintWords Go.Proofs.YtfgonclaiphoeaaGreatDoorW.PrintLast Go.Proofs.YtfgonclaiphoeaaGreatDoorW.PrintMore Go.Maps
open Go.Proofs.YtfgonclaiphoeaaGreatDoor.Base Go.Proofs.YtfgonclaiphoeaaGreatDoor.Map Go.Proofs.YtfgonclaiphoeaaGreatDoor.Sl Go.Proofs.YtfgonclaiphoeaaGreatDoor.Ow Go.Proofs.YtfgonclaiphoeaaGreatDoor.Se

/-- what Reach holds on to -/
structure RInv (n : Nat) (E : List GE) (os todo l : List Int) : Prop where
  srt : Srt l
  a : ∀ x ∈ l, Rch n E os x
  b : ∀ x ∈ todo, 0 ≤ x → x < n → Rch n E os x
  c : ∀ x ∈ os, 0 ≤ x → x < n → x ∈ l ∨ x ∈ todo
  d : ∀ x ∈ l, ∀ f y, (x, f, y) ∈ E → y ∈ l ∨ y ∈ todo
  ok : ∀ x ∈ todo, ok64 x
/-- what a new object leads to -/
def pushed (E : List GE) (o : Int) (j : Nat) : List Int := ((fieldsG E [o]).take j).flatMap fun f => nextG E f [o]
section
variable {n : Nat} {E : List GE} {os t l : List Int} {o : Int}
theorem RInv.start (h : ∀ x ∈ os, ok64 x) : RInv n E os os [] :=
  ⟨Srt.nil, (fun x hx => by cases hx), fun x hx h0 h1 => .base hx h0 h1, fun x hx _ _ => .inr hx, (fun x hx => by cases hx), h⟩
theorem RInv.out (h : RInv n E os (o :: t) l) (hE : RightG n E) (ho : ¬ (0 ≤ o ∧ o < n)) : RInv n E os t l :=
  ⟨h.srt, h.a, fun x hx => h.b x (by simp [hx]), fun x hx h0 h1 => (h.c x hx h0 h1).elim .inl (fun h2 => (List.mem_cons.1 h2).elim (fun e => absurd ⟨e ▸ h0, e ▸ h1⟩ ho) .inr),
    fun x hx f y hy => (h.d x hx f y hy).elim .inl (fun h2 => (List.mem_cons.1 h2).elim (fun e => absurd (by have := hE _ hy; subst e; exact ⟨this.2.2.1, this.2.2.2⟩) ho) .inr), fun x hx => h.ok x (by simp [hx])⟩
theorem RInv.old (h : RInv n E os (o :: t) l) (ho : o ∈ l) : RInv n E os t l :=
  ⟨h.srt, h.a, fun x hx => h.b x (by simp [hx]), fun x hx h0 h1 => (h.c x hx h0 h1).elim .inl (fun h2 => (List.mem_cons.1 h2).elim (fun e => .inl (e ▸ ho)) .inr),
    fun x hx f y hy => (h.d x hx f y hy).elim .inl (fun h2 => (List.mem_cons.1 h2).elim (fun e => .inl (e ▸ ho)) .inr), fun x hx => h.ok x (by simp [hx])⟩
theorem mem_pushed {y : Int} : y ∈ pushed E o (fieldsG E [o]).length ↔ ∃ f, (o, f, y) ∈ E := by
  unfold pushed
  rw [List.take_length, List.mem_flatMap]
  constructor
  · rintro ⟨f, h1, h2⟩; exact ⟨f, mem_next1.1 h2⟩
  · rintro ⟨f, h⟩; exact ⟨f, mem_fields1.2 ⟨y, h⟩, mem_next1.2 h⟩
theorem RInv.new (h : RInv n E os (o :: t) l) (hE : RightG n E) (hn : n ≤ 1000) (ho : 0 ≤ o ∧ o < n) : RInv n E os (t ++ pushed E o (fieldsG E [o]).length) (ins l o) := by
  have hro : Rch n E os o := h.b o (by simp) ho.1 ho.2
  refine ⟨srt_ins h.srt o, fun x hx => ?_, fun x hx h0 h1 => ?_, fun x hx h0 h1 => ?_, fun x hx f y hy => ?_, fun x hx => ?_⟩
  · rcases mem_ins.1 hx with rfl | hx
    · exact hro
    · exact h.a x hx
  · rcases List.mem_append.1 hx with hx | hx
    · exact h.b x (by simp [hx]) h0 h1
    · obtain ⟨f, hf⟩ := mem_pushed.1 hx
      exact .step hro hf h0 h1
  · rcases h.c x hx h0 h1 with h2 | h2
    · exact .inl (mem_ins.2 (.inr h2))
    · rcases List.mem_cons.1 h2 with rfl | h2
      · exact .inl (mem_ins.2 (.inl rfl))
      · exact .inr (List.mem_append.2 (.inl h2))
  · rcases mem_ins.1 hx with rfl | hx
    · exact .inr (List.mem_append.2 (.inr (mem_pushed.2 ⟨f, hy⟩)))
    · rcases h.d x hx f y hy with h2 | h2
      · exact .inl (mem_ins.2 (.inr h2))
      · rcases List.mem_cons.1 h2 with rfl | h2
        · exact .inl (mem_ins.2 (.inl rfl))
        · exact .inr (List.mem_append.2 (.inl h2))
  · rcases List.mem_append.1 hx with hx | hx
    · exact h.ok x (by simp [hx])
    · obtain ⟨f, hf⟩ := mem_pushed.1 hx
      have := hE _ hf
      exact ok64_of (by have := this.2.2.1; simp at this; omega) (by have := this.2.2.2; simp at this; omega)
theorem RInv.done (h : RInv n E os [] l) : l = reachG n E os :=
  reachG_of h.srt h.a (fun o ho h0 h1 => (h.c o ho h0 h1).elim id (fun h => by cases h)) (fun a ha f b hb _ _ => (h.d a ha f b hb).elim id (fun h => by cases h))
theorem next_len (E : List GE) (f : Int) (os : List Int) : (nextG E f os).length ≤ E.length := by
  have h : ∀ l ns : List Int, (insL l ns).length ≤ l.length + ns.length := fun l ns => by
    induction ns generalizing l with
    | nil => simp [insL]
    | cons n ns ih =>
      have h1 : insL l (n :: ns) = insL (ins l n) ns := rfl
      have h2 := ins_len_le l n
      have h3 := ih (ins l n)
      rw [h1]; simp only [List.length_cons]; omega
  have h1 := h [] ((E.filter fun e => decide (e.2.1 = f) && os.contains e.1).map (·.2.2))
  have h2 := List.length_filter_le (fun e : GE => decide (e.2.1 = f) && os.contains e.1) E
  unfold nextG srtL
  rw [List.length_map, List.length_nil, Nat.zero_add] at h1
  exact Nat.le_trans h1 h2
theorem pushed_len (E : List GE) (o : Int) (j : Nat) : (pushed E o j).length ≤ E.length * E.length := by
  have h : ∀ fs : List Int, (fs.flatMap fun f => nextG E f [o]).length ≤ fs.length * E.length := fun fs => by
    induction fs with
    | nil => simp
    | cons f fs ih =>
      rw [List.flatMap_cons, List.length_append, List.length_cons, Nat.succ_mul]
      have := next_len E f [o]
      omega
  refine Nat.le_trans (h _) (Nat.mul_le_mul_right _ ?_)
  rw [List.length_take]
  exact Nat.le_trans (Nat.min_le_right _ _) (fields_len E [o])
theorem pushed_snoc (E : List GE) (o : Int) (j : Nat) (hj : j < (fieldsG E [o]).length) : pushed E o (j + 1) = pushed E o j ++ nextG E ((fieldsG E [o]).getD j 0) [o] := by
  unfold pushed
  rw [List.take_succ_eq_append_getElem hj, List.flatMap_append]
  simp [List.getElem?_eq_getElem hj]
theorem next_pos (E : List GE) (o : Int) {f : Int} (hf : f ∈ fieldsG E [o]) : 0 < (nextG E f [o]).length := by
  obtain ⟨t, h⟩ := mem_fields1.1 hf
  exact List.length_pos_of_mem (mem_next1.2 h)
theorem RInv.len (h : RInv n E os t l) : l.length ≤ n := srt_len h.srt (a := 0) (k := n) (fun x hx => by have := (h.a x hx).lt; omega)
/-- how much there is still to be done -/
theorem pot_new (h : RInv n E os (o :: t) l) (ho : 0 ≤ o ∧ o < n) (hn : o ∉ l) (D : Nat) (hD : (pushed E o (fieldsG E [o]).length).length ≤ D) :
    (t ++ pushed E o (fieldsG E [o]).length).length + (n - (ins l o).length) * D < (o :: t).length + (n - l.length) * D := by
  have h1 : (ins l o).length ≤ n := srt_len (srt_ins h.srt o) (a := 0) (k := n) (fun x hx => by
    rcases mem_ins.1 hx with rfl | hx
    · omega
    · have := (h.a x hx).lt; omega)
  rw [ins_len, if_neg hn] at h1 ⊢
  have e : n - l.length = (n - (l.length + 1)) + 1 := by omega
  rw [e, Nat.succ_mul, List.length_append, List.length_cons]
  omega
end
/-- the map of fields, at whatever later world -/
theorem GA.byW {w : World} {p : Nat} {T : List ByteArray} {E : List GE} (h : GA w p T E) : ∃ mb, ∀ a, ok64 a →
    ∃ v, (∀ W, Below w.heap.size w W → W.cell? ⟨p, 2, none⟩ = some (.map (some mb)) ∧ (Instr.lookup 48 (.map (some mb)) (.int .i64 a) false).run Tryz.prog W = .ok v W) ∧ RdV w v (fieldsG E [a]) := by
  obtain ⟨lab, vT, mn, mb, fn, fb, cn, cb, g⟩ := h
  refine ⟨mb, fun a ha => ?_⟩
  have hl : ∀ W, Below w.heap.size w W → W.cell? ⟨p, 2, none⟩ = some (.map (some mb)) ∧ (Instr.lookup 48 (.map (some mb)) (.int .i64 a) false).run Tryz.prog W = .ok ((fb (.int .i64 a)).getD (.slice none 0 0)) W := fun W hb =>
    ⟨blk_cell (Ow.blk_below g.blk hb) 2, (g.by_.below hb).look law3 Tryz.underlying48 (zero26 W) (intKey ha)⟩
  obtain ⟨-, h1, h2⟩ := g.fields a ha
  by_cases hB : fieldsG E [a] = []
  · rw [h2 hB] at hl
    rw [hB]
    exact ⟨_, hl, RdV.nil w⟩
  · obtain ⟨v, e1, e2⟩ := h1 hB
    rw [e1] at hl
    exact ⟨_, hl, e2.toV⟩
end Go.Proofs.YtfgonclaiphoeaaGreatDoor.Gr
