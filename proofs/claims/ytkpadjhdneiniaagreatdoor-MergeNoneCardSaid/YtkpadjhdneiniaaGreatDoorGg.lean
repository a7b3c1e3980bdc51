/- Gg, Gh, Gi, Gj, Gk, Gl -/
import Derived.Test.YtkpadjhdneiniaaGreatDoorGa
import Derived.Deep.LoopGhost
import Derived.Maps.RangeWalk
/- Gg: graph.Next. -/
section
namespace Go.Proofs.YtkpadjhdneiniaaGreatDoor.Gr
set_option linter.unusedVariables false
open Go.RowKit Go.Proofs.YtkpadjhdneiniaaGreatDoorW.PrintWords Go.Proofs.YtkpadjhdneiniaaGreatDoorW.PrintLast Go.Proofs.YtkpadjhdneiniaaGreatDoorW.PrintMore Go.Maps
open Go.Proofs.YtkpadjhdneiniaaGreatDoor.Base Go.Proofs.YtkpadjhdneiniaaGreatDoor.Map Go.Proofs.YtkpadjhdneiniaaGreatDoor.Sl Go.Proofs.YtkpadjhdneiniaaGreatDoor.Ow Go.Proofs.YtkpadjhdneiniaaGreatDoor.Se

/-- A graph that a call may read. -/
structure GA (w : World) (p : Nat) (T : List ByteArray) (E : List GE) : Prop where mk :: (out : ∃ lab, GN w lab p T E)
theorem GA.below {w w1 : World} {p : Nat} {T : List ByteArray} {E : List GE} (h : GA w p T E) (hb : Below w.heap.size w w1) : GA w1 p T E := by
  obtain ⟨lab, h⟩ := h; exact ⟨lab, GX.below h hb⟩
/-- the map of ways, and what it has -/
theorem GA.ways {w : World} {p : Nat} {T : List ByteArray} {E : List GE} (h : GA w p T E) : ∃ mn, w.cell? ⟨p, 1, none⟩ = some (.map (some mn)) ∧ ∀ a f, ok64 a → ok64 f →
    ∃ v, (Instr.lookup 77 (.map (some mn)) (.agg #[.int .i64 a, .int .i64 f]) false).run Tryz.prog w = .ok v w ∧ SetN w v (nextG E f [a]) := by
  obtain ⟨lab, vT, mn, mb, fn, fb, cn, cb, g⟩ := h
  refine ⟨mn, blk_cell g.blk 1, fun a f ha hf => ?_⟩
  have hl := g.next.look law54 Tryz.underlying77 (zero55 w) (wayL_key ha hf)
  by_cases hK : KE E a f
  · obtain ⟨b, e1, e2⟩ := (g.ways a f ha hf).1 hK
    rw [e1] at hl
    exact ⟨_, hl, .inr ⟨b, _, rfl, e2⟩⟩
  · rw [(g.ways a f ha hf).2 hK] at hl
    exact ⟨_, hl, .inl ⟨rfl, next_none hK⟩⟩
theorem next_take (E : List GE) (f : Int) (os : List Int) (i : Nat) (hi : i < os.length) : insL (nextG E f (os.take i)) (nextG E f [os.getD i 0]) = nextG E f (os.take (i + 1)) := by
  refine srt_ext (srt_insL (srt_nextG _ _ _)) (srt_nextG _ _ _) fun x => ?_
  rw [mem_insL, mem_next1, mem_nextG, mem_nextG, List.take_succ_eq_append_getElem hi]
  have e : os[i] = os.getD i 0 := by simp [List.getElem?_eq_getElem hi]
  rw [e]
  constructor
  · rintro (h | ⟨a, h1, h2⟩)
    · exact ⟨_, h, by simp⟩
    · exact ⟨a, h1, by simp [h2]⟩
  · rintro ⟨a, h1, h2⟩
    rcases List.mem_append.1 h2 with h2 | h2
    · exact .inr ⟨a, h1, h2⟩
    · rw [List.mem_singleton] at h2; subst h2; exact .inl h1
set_option maxHeartbeats 4000000 in
set_option maxRecDepth 100000 in
theorem next_any (p : Nat) (T : List ByteArray) (E : List GE) (f : Int) (u : Value) (os : List Int) (w : World) (h : GA w p T E) (hu : RdV w u os) (hT : TZ w) (hf : ok64 f) (ho : ∀ x ∈ os, ok64 x) (hl : os.length ≤ 1000000) :
    Calls Tryz.prog 64 #[.pointer (some ⟨p, 0, none⟩), .int .i64 f, u] w fun e w' => ∃ v, e = .returned v ∧ OwI w' w.heap.size v (nextG E f os) ∧ Below w.heap.size w w' := by
  obtain ⟨A, c, rfl, hc, hr⟩ := hu
  have H := Aside0.mk h
  have HT := Aside0.mk hT
  have HR := Aside0.mk hr
  have Ho := Aside0.mk (And.intro hf ho)
  have Hl := Aside0.mk hl
  clear h hT hr hc hf ho hl
  go_enter Tryz.func64, Tryz.ntmps64
  go_wp2_with fail
  refine (of_any w).mono ?_
  rintro e w1 ⟨q, rfl, r1, r2⟩
  have H1 := Aside0.mk r1
  have HB1 := Aside0.mk r2
  clear r1 r2
  go_wp2_with fail
  go_loopw [9, 13] (fun _ I wr => ∃ (i : Nat) (F : Nat → Prop), I = .int .i64 (i : Int) ∧ i ≤ os.length ∧ Aside0 (SetF wr F q (nextG E f (os.take i))) ∧ Aside0 (∀ k, F k → w.heap.size ≤ k) ∧ Aside0 (Below w.heap.size w wr)) (fun _ I _ => os.length - (intOf I).toNat)
  case atStart => exact ⟨0, Ow.new w w1, rfl, Nat.zero_le _, ⟨by have e : nextG E f (os.take 0) = [] := List.eq_nil_iff_forall_not_mem.2 (fun x hx => by rw [mem_nextG] at hx; obtain ⟨a, _, h2⟩ := hx; cases h2); rw [e]; exact H1.out⟩, ⟨fun k hk => hk.1⟩, HB1⟩
  case round =>
    obtain ⟨i, F, rfl, hi, HS, HF, HB⟩ := hrel
    by_cases hin : i < os.length
    · have hnb : decide ((i : Int) < (os.length : Int)) = true := decide_eq_true (by omega)
      have hnc : decide (i < os.length) = true := decide_eq_true hin
      obtain ⟨ad, rfl, hx⟩ := (HR.out.below HB.out).at_ (i : Int) (by omega) (by omega)
      rw [Int.toNat_natCast] at hx
      have i0 : 0 ≤ (i : Int) := by omega
      have i1 : (i : Int) < (os.length : Int) := by omega
      have i2 : (i : Int) ≤ 1000000 := by have := Hl.out; omega
      have hx2 : rd os (i : Int) = os.getD i 0 := by simp [rd]
      have hnx := next_take E f os i hin
      obtain ⟨x, hxx⟩ : ∃ x, os.getD i 0 = x := ⟨_, rfl⟩
      rw [hx2, hxx] at hx
      rw [hxx] at hnx
      have hxm : ok64 x := Ho.out.2 x (by rw [← hxx]; exact getD_mem hin)
      obtain ⟨mn, c1, hways⟩ := (H.out.below HB.out).ways
      obtain ⟨sv, hlk, hsn⟩ := hways x f hxm Ho.out.1
      have Hsn := Aside0.mk hsn
      have Hnx := Aside0.mk hnx
      have Hin := Aside0.mk hin
      clear hin hi hx2 hxx hnx hxm hways hsn
      replace i0 := eq_true i0
      replace i1 := eq_true i1
      go_wp2_with fail
      refine (merge_any q F _ _ sv _ HS.out Hsn.out (HT.out.below HB.out)).mono ?_
      rintro e w2 ⟨F', G, v, rfl, r1, -, r3, -, -, r6⟩
      rw [Hnx.out] at r1
      have HS' := Aside0.mk r1
      have hsz := HB.out.size
      have HF' := Aside0.mk (show ∀ k, F' k → w.heap.size ≤ k from fun k hk => (r3 k hk).elim (HF.out k) (fun h => by have := h.1; omega))
      have HB' := Aside0.mk (show Below w.heap.size w w2 from ((Chg.of_below HB.out (fun _ => False)).then_ r6 (fun k hk => .inr (HF.out k hk))).below (Nat.le_refl _) (fun k hk => hk.elim))
      clear r1 r3 r6 hsz
      go_wp2_with fail
      go_roundw
      case rel => exact ⟨i + 1, F', by go_num, Hin.out, HS', HF', HB'⟩
      case measure => have := Hin.out; simp [intOf]; omega
    · have hnb : decide ((i : Int) < (os.length : Int)) = false := decide_eq_false (by omega)
      have hnc : decide (i < os.length) = false := decide_eq_false hin
      obtain rfl : i = os.length := by omega
      rw [List.take_length] at HS
      clear hin hi
      go_wp2_with fail
      refine (list_any q F _ _ HS.out (HT.out.below HB.out)).mono ?_
      rintro e w2 ⟨v, rfl, r1, r2⟩
      have HO := Aside0.mk (r1.lower HB.out.size)
      have HB' := Aside0.mk (bel_trans HB.out r2)
      clear r1 r2
      go_wp2_with fail
      go_ret
      exact ⟨_, rfl, HO.out, HB'.out⟩
end Go.Proofs.YtkpadjhdneiniaaGreatDoor.Gr
end

/- Gh: Queues of numbers that a call owns: cut ahead, appended to behind. -/
section
namespace Go.Proofs.YtkpadjhdneiniaaGreatDoor.Gr
set_option linter.unusedVariables false
open Go.RowKit Go.Proofs.YtkpadjhdneiniaaGreatDoorW.PrintWords Go.Proofs.YtkpadjhdneiniaaGreatDoorW.PrintLast Go.Proofs.YtkpadjhdneiniaaGreatDoorW.PrintMore Go.Maps
open Go.Proofs.YtkpadjhdneiniaaGreatDoor.Base Go.Proofs.YtkpadjhdneiniaaGreatDoor.Map Go.Proofs.YtkpadjhdneiniaaGreatDoor.Sl Go.Proofs.YtkpadjhdneiniaaGreatDoor.Ow Go.Proofs.YtkpadjhdneiniaaGreatDoor.Se

structure OwQ (w : World) (F : Nat → Prop) (v : Value) (l : List Int) : Prop where mk :: (out : Kd.Q (Kd.int .i64) 3 w 0 F v l)
section
variable {w w1 : World} {F F' G : Nat → Prop} {v : Value} {l : List Int}
theorem OwQ.toV (h : OwQ w F v l) : RdV w v l := by
  obtain ⟨A, c, h1, h2, h3⟩ := Kd.Q_reads h.out
  exact ⟨A, c, h1, h2, ⟨h3⟩⟩
theorem OwQ.mono (h : OwQ w F v l) (hF : ∀ k, F k → F' k) : OwQ w F' v l := ⟨Kd.Q_mono h.out hF⟩
theorem OwQ.below (h : OwQ w F v l) (hb : Below w.heap.size w w1) : OwQ w1 F v l := ⟨Kd.Q_below h.out hb⟩
theorem OwQ.chg (h : OwQ w F v l) (hC : Chg G w w1) (hd : ∀ k, F k → ¬ G k) : OwQ w1 F v l := ⟨Kd.Q_step h.out (fun k hk hlt => hC.block k hlt (hd k hk))⟩
theorem OwQ.bound (h : OwQ w F v l) : OwQ w (fun k => F k ∧ k < w.heap.size) v l := ⟨Kd.Q_mono (Kd.Q_bound h.out) (fun k hk => ⟨hk.1, hk.2.2.1⟩)⟩
theorem OwF.toQ (h : OwF w F v l) : OwQ w F v l := ⟨Kd.Q_of_R h.out⟩
end
section
variable {ops : Array Oper} {rest : List Oper} {o : Oper} {a : Act} {Q : Exit → Act → World → Prop}
end
end Go.Proofs.YtkpadjhdneiniaaGreatDoor.Gr
end

/- Gi: graph.Reach. -/
section
namespace Go.Proofs.YtkpadjhdneiniaaGreatDoor.Gr
set_option linter.unusedVariables false
open Go.RowKit Go.Proofs.YtkpadjhdneiniaaGreatDoorW.PrintWords Go.Proofs.YtkpadjhdneiniaaGreatDoorW.PrintLast Go.Proofs.YtkpadjhdneiniaaGreatDoorW.PrintMore Go.Maps
open Go.Proofs.YtkpadjhdneiniaaGreatDoor.Base Go.Proofs.YtkpadjhdneiniaaGreatDoor.Map Go.Proofs.YtkpadjhdneiniaaGreatDoor.Sl Go.Proofs.YtkpadjhdneiniaaGreatDoor.Ow Go.Proofs.YtkpadjhdneiniaaGreatDoor.Se

/-- what Reach holds on to -/
structure RInv (n : Nat) (E : List GE) (os todo l : List Int) : Prop where
  srt : Srt l
  a : ∀ x ∈ l, Rch n E os x
  b : ∀ x ∈ todo, 0 ≤ x → x < n → Rch n E os x
  c : ∀ x ∈ os, 0 ≤ x → x < n → x ∈ l ∨ x ∈ todo
  d : ∀ x ∈ l, ∀ f y, (x, f, y) ∈ E → y ∈ l ∨ y ∈ todo
  ok : ∀ x ∈ todo, ok64 x
/-- what a new object leads to -/
def pushed (E : List GE) (o : Int) (j : Nat) : List Int := ((fieldsG E [o]).take j).flatMap fun f => nextG E f [o]
section
variable {n : Nat} {E : List GE} {os t l : List Int} {o : Int}
theorem RInv.start (h : ∀ x ∈ os, ok64 x) : RInv n E os os [] :=
  ⟨Srt.nil, (fun x hx => by cases hx), fun x hx h0 h1 => .base hx h0 h1, fun x hx _ _ => .inr hx, (fun x hx => by cases hx), h⟩
theorem RInv.out (h : RInv n E os (o :: t) l) (hE : RightG n E) (ho : ¬ (0 ≤ o ∧ o < n)) : RInv n E os t l :=
  ⟨h.srt, h.a, fun x hx => h.b x (by simp [hx]), fun x hx h0 h1 => (h.c x hx h0 h1).elim .inl (fun h2 => (List.mem_cons.1 h2).elim (fun e => absurd ⟨e ▸ h0, e ▸ h1⟩ ho) .inr),
    fun x hx f y hy => (h.d x hx f y hy).elim .inl (fun h2 => (List.mem_cons.1 h2).elim (fun e => absurd (by have := hE _ hy; subst e; exact ⟨this.2.2.1, this.2.2.2⟩) ho) .inr), fun x hx => h.ok x (by simp [hx])⟩
theorem RInv.old (h : RInv n E os (o :: t) l) (ho : o ∈ l) : RInv n E os t l :=
  ⟨h.srt, h.a, fun x hx => h.b x (by simp [hx]), fun x hx h0 h1 => (h.c x hx h0 h1).elim .inl (fun h2 => (List.mem_cons.1 h2).elim (fun e => .inl (e ▸ ho)) .inr),
    fun x hx f y hy => (h.d x hx f y hy).elim .inl (fun h2 => (List.mem_cons.1 h2).elim (fun e => .inl (e ▸ ho)) .inr), fun x hx => h.ok x (by simp [hx])⟩
theorem mem_pushed {y : Int} : y ∈ pushed E o (fieldsG E [o]).length ↔ ∃ f, (o, f, y) ∈ E := by
  unfold pushed
  rw [List.take_length, List.mem_flatMap]
  constructor
  · rintro ⟨f, h1, h2⟩; exact ⟨f, mem_next1.1 h2⟩
  · rintro ⟨f, h⟩; exact ⟨f, mem_fields1.2 ⟨y, h⟩, mem_next1.2 h⟩
theorem RInv.new (h : RInv n E os (o :: t) l) (hE : RightG n E) (hn : n ≤ 1000) (ho : 0 ≤ o ∧ o < n) : RInv n E os (t ++ pushed E o (fieldsG E [o]).length) (ins l o) := by
  have hro : Rch n E os o := h.b o (by simp) ho.1 ho.2
  refine ⟨srt_ins h.srt o, fun x hx => ?_, fun x hx h0 h1 => ?_, fun x hx h0 h1 => ?_, fun x hx f y hy => ?_, fun x hx => ?_⟩
  · rcases mem_ins.1 hx with rfl | hx
    · exact hro
    · exact h.a x hx
  · rcases List.mem_append.1 hx with hx | hx
    · exact h.b x (by simp [hx]) h0 h1
    · obtain ⟨f, hf⟩ := mem_pushed.1 hx
      exact .step hro hf h0 h1
  · rcases h.c x hx h0 h1 with h2 | h2
    · exact .inl (mem_ins.2 (.inr h2))
    · rcases List.mem_cons.1 h2 with rfl | h2
      · exact .inl (mem_ins.2 (.inl rfl))
      · exact .inr (List.mem_append.2 (.inl h2))
  · rcases mem_ins.1 hx with rfl | hx
    · exact .inr (List.mem_append.2 (.inr (mem_pushed.2 ⟨f, hy⟩)))
    · rcases h.d x hx f y hy with h2 | h2
      · exact .inl (mem_ins.2 (.inr h2))
      · rcases List.mem_cons.1 h2 with rfl | h2
        · exact .inl (mem_ins.2 (.inl rfl))
        · exact .inr (List.mem_append.2 (.inl h2))
  · rcases List.mem_append.1 hx with hx | hx
    · exact h.ok x (by simp [hx])
    · obtain ⟨f, hf⟩ := mem_pushed.1 hx
      have := hE _ hf
      exact ok64_of (by have := this.2.2.1; simp at this; omega) (by have := this.2.2.2; simp at this; omega)
theorem RInv.done (h : RInv n E os [] l) : l = reachG n E os :=
  reachG_of h.srt h.a (fun o ho h0 h1 => (h.c o ho h0 h1).elim id (fun h => by cases h)) (fun a ha f b hb _ _ => (h.d a ha f b hb).elim id (fun h => by cases h))
theorem next_len (E : List GE) (f : Int) (os : List Int) : (nextG E f os).length ≤ E.length := by
  have h : ∀ l ns : List Int, (insL l ns).length ≤ l.length + ns.length := fun l ns => by
    induction ns generalizing l with
    | nil => simp [insL]
    | cons n ns ih =>
      have h1 : insL l (n :: ns) = insL (ins l n) ns := rfl
      have h2 := ins_len_le l n
      have h3 := ih (ins l n)
      rw [h1]; simp only [List.length_cons]; omega
  have h1 := h [] ((E.filter fun e => decide (e.2.1 = f) && os.contains e.1).map (·.2.2))
  have h2 := List.length_filter_le (fun e : GE => decide (e.2.1 = f) && os.contains e.1) E
  unfold nextG srtL
  rw [List.length_map, List.length_nil, Nat.zero_add] at h1
  exact Nat.le_trans h1 h2
theorem RInv.len (h : RInv n E os t l) : l.length ≤ n := srt_len h.srt (a := 0) (k := n) (fun x hx => by have := (h.a x hx).lt; omega)
end
/-- the map of fields, at whatever later world -/
theorem GA.byW {w : World} {p : Nat} {T : List ByteArray} {E : List GE} (h : GA w p T E) : ∃ mb, ∀ a, ok64 a →
    ∃ v, (∀ W, Below w.heap.size w W → W.cell? ⟨p, 2, none⟩ = some (.map (some mb)) ∧ (Instr.lookup 78 (.map (some mb)) (.int .i64 a) false).run Tryz.prog W = .ok v W) ∧ RdV w v (fieldsG E [a]) := by
  obtain ⟨lab, vT, mn, mb, fn, fb, cn, cb, g⟩ := h
  refine ⟨mb, fun a ha => ?_⟩
  have hl : ∀ W, Below w.heap.size w W → W.cell? ⟨p, 2, none⟩ = some (.map (some mb)) ∧ (Instr.lookup 78 (.map (some mb)) (.int .i64 a) false).run Tryz.prog W = .ok ((fb (.int .i64 a)).getD (.slice none 0 0)) W := fun W hb =>
    ⟨blk_cell (Ow.blk_below g.blk hb) 2, (g.by_.below hb).look law3 Tryz.underlying78 (zero26 W) (intKey ha)⟩
  obtain ⟨-, h1, h2⟩ := g.fields a ha
  by_cases hB : fieldsG E [a] = []
  · rw [h2 hB] at hl
    rw [hB]
    exact ⟨_, hl, RdV.nil w⟩
  · obtain ⟨v, e1, e2⟩ := h1 hB
    rw [e1] at hl
    exact ⟨_, hl, e2.toV⟩
end Go.Proofs.YtkpadjhdneiniaaGreatDoor.Gr
end

/- Gj: graph.Reach: the walk. -/
section
namespace Go.Proofs.YtkpadjhdneiniaaGreatDoor.Gr
set_option linter.unusedVariables false
open Go.RowKit Go.Proofs.YtkpadjhdneiniaaGreatDoorW.PrintWords Go.Proofs.YtkpadjhdneiniaaGreatDoorW.PrintLast Go.Proofs.YtkpadjhdneiniaaGreatDoorW.PrintMore Go.Maps
open Go.Proofs.YtkpadjhdneiniaaGreatDoor.Base Go.Proofs.YtkpadjhdneiniaaGreatDoor.Map Go.Proofs.YtkpadjhdneiniaaGreatDoor.Sl Go.Proofs.YtkpadjhdneiniaaGreatDoor.Ow Go.Proofs.YtkpadjhdneiniaaGreatDoor.Se

/-- the set and the queue of Reach lie apart, both made by the call -/
structure RSep (w wr : World) (F G : Nat → Prop) : Prop where
  f : ∀ k, F k → w.heap.size ≤ k ∧ k < wr.heap.size
  g : ∀ k, G k → w.heap.size ≤ k ∧ k < wr.heap.size
  d : ∀ k, F k → ¬ G k
  b : Below w.heap.size w wr
theorem RSep.below {w wr w1 : World} {F G : Nat → Prop} (h : RSep w wr F G) (hb : Below wr.heap.size wr w1) : RSep w w1 F G :=
  ⟨fun k hk => by have := h.f k hk; have := hb.size; omega, fun k hk => by have := h.g k hk; have := hb.size; omega, h.d, below_then h.b h.b.size hb⟩
theorem thereA {w : World} {p : Nat} {T : List ByteArray} {E : List GE} (h : GA w p T E) (x : Int) :
    Calls Tryz.prog 60 #[.pointer (some ⟨p, 0, none⟩), .int .i64 x] w fun e w' => e = .returned (.bool (decide (0 ≤ x ∧ x < T.length))) ∧ w = w' := by
  obtain ⟨lab, h⟩ := h; exact there_any p lab T E x w h
end Go.Proofs.YtkpadjhdneiniaaGreatDoor.Gr
end

/- Gk: graph.Fields. -/
section
namespace Go.Proofs.YtkpadjhdneiniaaGreatDoor.Gr
set_option linter.unusedVariables false
open Go.RowKit Go.Proofs.YtkpadjhdneiniaaGreatDoorW.PrintWords Go.Proofs.YtkpadjhdneiniaaGreatDoorW.PrintLast Go.Proofs.YtkpadjhdneiniaaGreatDoorW.PrintMore Go.Maps
open Go.Proofs.YtkpadjhdneiniaaGreatDoor.Base Go.Proofs.YtkpadjhdneiniaaGreatDoor.Map Go.Proofs.YtkpadjhdneiniaaGreatDoor.Sl Go.Proofs.YtkpadjhdneiniaaGreatDoor.Ow Go.Proofs.YtkpadjhdneiniaaGreatDoor.Se

section
variable {ops : Array Oper} {rest : List Oper} {o : Oper} {a : Act} {Q : Exit → Act → World → Prop}
theorem appFg {W : World} {G : Nat → Prop} (hgd : o.guard = none) (s x : Operand)
    (ho : o.op = .call { callee := .builtin .append, args := #[s, x], argTypes := #[26, 26] })
    (v u : Value) (xs ys : List Int) (hs : a.eval s = v) (hx : a.eval x = u)
    (HO : OwF W G v xs) (HR : RdV W u ys) (hl : (xs.length + ys.length) * 8 ≤ 140737488355328)
    (h : ∀ v1 w1, OwF w1 (ext G W w1) v1 (xs ++ ys) → Chg G W w1 → W.grownBy w1 v.ownBlock → wpList Tryz.prog ops Q rest (a.put o.dst v1) w1) :
    wpList Tryz.prog ops Q (o :: rest) a W := by
  obtain ⟨A, c, hu, _, HR⟩ := HR
  exact Kd.R_append_row (Value.int .i64) (0 : Int) (h1 := fun _ => rfl) (w0 := W) 0 hgd s x 26 3 (.int .i64 0) 8 ho Tryz.underlying26 info3 rfl (by decide) v xs ys A _ c (fun k => G k ∨ W.heap.size ≤ k) hs (hx.trans hu) (fun _ hk => .inr hk) (Kd.R_mono HO.out (fun k hk => .inl hk)) HR.out (Below.refl _ _) (Nat.zero_le _) hl
    (fun v1 w1 ho hb hg hat => h v1 w1 ⟨Kd.R_mono (Kd.R_bound ho) (fun k hk => hk.1.elim .inl (fun h => .inr ⟨h, hk.2.2.1⟩))⟩ (Chg.of_grown hg (fun k hk => HO.out.1 k hk)) hg)
end
/-- owned by blocks that are new: made by the call -/
theorem OwF.own {w : World} {F : Nat → Prop} {base : Nat} {v : Value} {l : List Int} (h : OwF w F v l) (hF : ∀ k, F k → base ≤ k) : OwI w base v l :=
  ⟨Kd.R_mono (Kd.R_raise (b := 0) (b' := base) (fun _ _ _ _ h => h) h.out (fun k hk => hF k (h.out.1 k hk))) (fun _ _ => trivial)⟩
/-- what has been gathered of all objects' fields -/
structure FAll (E : List GE) (fb : Lit → Option Value) (left : Lit → Bool) (acc : List Int) : Prop where
  a : ∀ f ∈ acc, ∃ x y, (x, f, y) ∈ E
  c : ∀ x, ok64 x → (fb (.int .i64 x)).isSome → left (.int .i64 x) = true ∨ ∀ f ∈ fieldsG E [x], f ∈ acc
theorem FAll.step {E : List GE} {fb : Lit → Option Value} {left : Lit → Bool} {acc : List Int} (h : FAll E fb left acc) (x : Int) : FAll E fb (fun z => left z && !z.sameKey (.int .i64 x)) (acc ++ fieldsG E [x]) := by
  refine ⟨fun f hf => ?_, fun y hy hs => ?_⟩
  · rcases List.mem_append.1 hf with hf | hf
    · exact h.a f hf
    · obtain ⟨t, ht⟩ := mem_fields1.1 hf; exact ⟨x, t, ht⟩
  · rcases h.c y hy hs with h1 | h1
    · by_cases e : y = x
      · subst e; exact .inr fun f hf => List.mem_append.2 (.inr hf)
      · left
        rw [h1]
        have : (Lit.int .i64 y).sameKey (.int .i64 x) = false := by simp [Lit.sameKey, e]
        rw [this]; rfl
    · exact .inr fun f hf => List.mem_append.2 (.inl (h1 f hf))
theorem FAll.done {E : List GE} {fb : Lit → Option Value} {left : Lit → Bool} {acc : List Int} (h : FAll E fb left acc) (hl : ∀ kl, left kl = false) (hE : ∀ x f y, (x, f, y) ∈ E → ok64 x) (hfb : ∀ x, ok64 x → fieldsG E [x] ≠ [] → (fb (.int .i64 x)).isSome) : srtL acc = fieldsG E [] := by
  refine srt_ext (srt_srtL _) (srt_fieldsG _ _) fun f => ?_
  rw [mem_srtL, mem_fieldsG]
  constructor
  · intro hf
    obtain ⟨x, y, hxy⟩ := h.a f hf
    exact ⟨x, y, hxy, .inl rfl⟩
  · rintro ⟨x, y, hxy, _⟩
    have hm : f ∈ fieldsG E [x] := mem_fields1.2 ⟨y, hxy⟩
    rcases h.c x (hE x f y hxy) (hfb x (hE x f y hxy) (fun e => by rw [e] at hm; cases hm)) with h1 | h1
    · rw [hl] at h1; cases h1
    · exact h1 f hm
theorem srt_compact (l : List Int) : Lib.compact (sortL l) = srtL l := compact_sort l
set_option maxHeartbeats 8000000 in
set_option maxRecDepth 100000 in
theorem fields_none (p : Nat) (T : List ByteArray) (E : List GE) (A : Option Addr) (c : Nat) (w : World) (h : GA w p T E) (hE : ∀ x f y, (x, f, y) ∈ E → ok64 x) (hl : E.length ≤ 1000) :
    Calls Tryz.prog 66 #[.pointer (some ⟨p, 0, none⟩), .slice A 0 c] w fun e w' => ∃ v, e = .returned v ∧ OwI w' w.heap.size v (fieldsG E []) ∧ Below w.heap.size w w' := by
  obtain ⟨lab, vT, mn, mb, fn, fb, cn, cb, g⟩ := h
  have c2 : w.cell? ⟨p, 2, none⟩ = some (.map (some mb)) := blk_cell g.blk 2
  have hmlt : mb < w.heap.size := g.by_.lt
  obtain ⟨D, hown, hsz, hhas, hat⟩ := g.by_
  have HG := Aside0.mk g
  have HH := Aside0.mk (And.intro hhas hat)
  have HE := Aside0.mk (And.intro hE hl)
  have Hm := Aside0.mk hmlt
  have Hsz := Aside0.mk (show Maps.size D * E.length ≤ 1000000 from by
    rw [hsz]
    have := g.tail.2.2
    exact Nat.mul_le_mul (Nat.le_trans this hl) hl)
  have Hown := Aside0.mk hown
  clear g hE hl hmlt hsz hhas hat hown
  go_enter Tryz.func66, Tryz.ntmps66
  go_wp2_with (first
    | (at_range; refine wpList_range_own _ rfl _ 78 rfl 3 26 law3 Tryz.underlying78 tokR mb cb D rfl Hown.out ?_; intro w0 hrg0 hg0 hs0)
    | go_in)
  go_frame
  have HB0 : Aside0 (Below w.heap.size w w0) := ⟨hg0.os, hg0.tape, hg0.output, hg0.size, fun k hk => hg0.block k hk (by simp)⟩
  have Hs0 := Aside0.mk hs0
  have HR0 := Aside0.mk hrg0
  clear hg0 hs0 hrg0
  go_loopw [5, 7] (fun V _ wr => ∃ (left : Lit → Bool) (cnt : Nat) (acc : List Int) (G : Nat → Prop), Aside0 (wr.ranges Tryz.prog 3 tokR mb w.heap.size cb D left cnt) ∧ Aside0 (OwF wr G V acc) ∧ Aside0 (∀ k, G k → w.heap.size < k) ∧ Aside0 (FAll E fb left acc) ∧ Aside0 (∀ kl, left kl = true → (fb kl).isSome) ∧ Aside0 (acc.length + cnt * E.length ≤ 1000000) ∧ Aside0 (Below w.heap.size w wr))
    (fun _ _ wr => wr.rangeLeft mb w.heap.size)
  case atStart => exact ⟨_, _, [], fun _ => False, HR0, ⟨OwF.nil _ _⟩, ⟨fun k hk => hk.elim⟩, ⟨(fun f hf => by cases hf), fun x hx hs => .inl ((HH.out.1 _).trans hs)⟩, ⟨fun kl hk => (HH.out.1 kl).symm.trans hk⟩, ⟨by have := Hsz.out; simp; omega⟩, HB0⟩
  case round =>
    obtain ⟨left, cnt, acc, G, HR, HO, HGb, HF, HL, HLen, HB⟩ := hrel
    go_wp2_with (first
      | (at_next; refine wpList_next_ranges (α := Int) (β := Value) _ rfl _ rfl 3 law3 tokR (Value.int .i64) id (fun key kl hkey => by obtain ⟨x, rfl, _⟩ := Maps.keyOf_int_inv Tryz.underlying3 hkey; exact ⟨x, rfl⟩) (fun v y hv => ⟨v, rfl⟩) mb w.heap.size cb _ _ _ rfl HR.out ?_ ?_)
      | go_in)
    · intro _ hl0
      have HD := Aside0.mk (HF.out.done hl0 HE.out.1 (fun x hx hn => by
        obtain ⟨v, e1, _⟩ := ((HG.out.fields x hx).2.1 hn)
        rw [e1]; rfl))
      clear hl0
      go_wp2_with fail
      refine wp_loop_rounds 1 ?_
      rw [rounds_succ]
      go_wp2_with fail
      refine (sort_own _ acc G _ HO.out (by have := HLen.out; omega)).mono ?_
      rintro e w2 ⟨rfl, r1, r2⟩
      have HO2 := Aside0.mk r1
      have HB2 := Aside0.mk (show Below w.heap.size w w2 from ((Chg.of_below HB.out (fun _ => False)).then_ r2 (fun k hk => .inr (Nat.le_of_lt (HGb.out k hk)))).below (Nat.le_refl _) (fun k hk => hk.elim))
      clear r1 r2
      go_wp2_with fail
      refine (compact_own _ _ G w2 HO2.out).mono ?_
      rintro e w3 ⟨v3, rfl, r1, r2⟩
      rw [srt_compact, HD.out] at r1
      have HO3 := Aside0.mk (OwF.own r1 (base := w.heap.size) (fun k hk => Nat.le_of_lt (HGb.out k hk)))
      have HB3 := Aside0.mk (show Below w.heap.size w w3 from ((Chg.of_below HB2.out (fun _ => False)).then_ r2 (fun k hk => .inr (Nat.le_of_lt (HGb.out k hk)))).below (Nat.le_refl _) (fun k hk => hk.elim))
      clear r1 r2
      go_wp2_with fail
      go_ret
      exact ⟨_, rfl, HO3.out, HB3.out⟩
    · intro x c1 kl y ps w1 cnt1 hkey hlx hy hat hrg1 hlt hg1 hs1 hen
      obtain ⟨x', ex, rfl, hwx⟩ := Maps.keyOf_int_inv Tryz.underlying3 hkey
      cases ex
      have hrd : RdV w c1 (fieldsG E [x]) := by
        have h1 := HL.out _ hlx
        obtain ⟨v0, hv0⟩ := Option.isSome_iff_exists.1 h1
        have h2 := HH.out.2 _ _ hv0 (.held v0)
        rw [hat] at h2
        have h3 : y = .held c1 := by
          simp only [tokR, Option.some.injEq, Prod.mk.injEq] at hy
          exact hy.1.symm
        rw [h3] at h2
        cases h2
        obtain ⟨-, r1, r2⟩ := HG.out.fields x hwx
        by_cases hB : fieldsG E [x] = []
        · rw [r2 hB] at hv0; cases hv0
        · obtain ⟨v, e1, e2⟩ := r1 hB
          rw [hv0] at e1; cases e1
          exact e2.toV
      have hB1 : Below w.heap.size w w1 := ((Chg.of_below HB.out (fun _ => False)).then_ (Chg.of_grown hg1 (F := fun k => k = w.heap.size) (fun k hk => by cases hk; rfl)) (fun k hk => .inr (by rw [hk]; exact Nat.le_refl _))).below (Nat.le_refl _) (fun k hk => hk.elim)
      have HB1 := Aside0.mk hB1
      have HRd := Aside0.mk (hrd.below hB1)
      have HR1 := Aside0.mk hrg1
      have HO1 := Aside0.mk (HO.out.chg (Chg.of_grown hg1 (F := fun k => k = w.heap.size) (fun k hk => by cases hk; rfl)) (fun k hk e => by have := HGb.out k hk; omega))
      have HF1 := Aside0.mk (HF.out.step x)
      have HL1 := Aside0.mk (show ∀ kl, (left kl && !kl.sameKey (.int .i64 x)) = true → (fb kl).isSome from fun kl hk => HL.out kl (by simp at hk; exact hk.1))
      have hfl := fields_len E [x]
      have Hlen1 := Aside0.mk (show (acc ++ fieldsG E [x]).length + cnt1 * E.length ≤ 1000000 from by
        have h1 := HLen.out
        have h2 : (cnt1 + 1) * E.length ≤ cnt * E.length := Nat.mul_le_mul_right _ hlt
        rw [Nat.succ_mul] at h2
        rw [List.length_append]; omega)
      have Hcnt := Aside0.mk (show wr.rangeLeft mb w.heap.size = cnt ∧ cnt1 < cnt from ⟨HR.out.left_eq, hlt⟩)
      clear hkey hlx hy hat hrg1 hlt hg1 hs1 hrd hB1 hfl hwx
      go_wp2_with (first
        | (at_builtin; refine appFg (G := G) rfl (.tmp 22) (.tmp 23) rfl _ _ acc (fieldsG E [x]) rfl rfl HO1.out HRd.out (by have := Hlen1.out; rw [List.length_append] at this; omega) ?_; intro v2 w2 ho2 hc2 hgr2)
        | go_in)
      have HR2 := Aside0.mk (HR1.out.kept hgr2 (fun e => by have := HGb.out mb (HO1.out.out.1 mb e.symm); have := Hm.out; omega) (fun e => by have := HGb.out w.heap.size (HO1.out.out.1 _ e.symm); omega))
      have hB2 : Below w.heap.size w w2 := ((Chg.of_below HB1.out (fun _ => False)).then_ hc2 (fun k hk => .inr (Nat.le_of_lt (HGb.out k hk)))).below (Nat.le_refl _) (fun k hk => hk.elim)
      have HB2 := Aside0.mk hB2
      have HG2 := Aside0.mk (show ∀ k, ext G w1 w2 k → w.heap.size < k from fun k hk => hk.elim (HGb.out k) (fun h => by have h1 := h.1; have h2 := HR1.out.lt; omega))
      have HO2 := Aside0.mk ho2
      clear ho2 hc2 hgr2 hB2
      go_roundw
      case rel => exact ⟨_, cnt1, _, _, HR2, HO2, HG2, HF1, HL1, Hlen1, HB2⟩
      case measure => rw [HR2.out.left_eq, Hcnt.out.1]; exact Hcnt.out.2
end Go.Proofs.YtkpadjhdneiniaaGreatDoor.Gr
end

/- Gl: graph.Fields of objects. -/
section
namespace Go.Proofs.YtkpadjhdneiniaaGreatDoor.Gr
set_option linter.unusedVariables false
open Go.RowKit Go.Proofs.YtkpadjhdneiniaaGreatDoorW.PrintWords Go.Proofs.YtkpadjhdneiniaaGreatDoorW.PrintLast Go.Proofs.YtkpadjhdneiniaaGreatDoorW.PrintMore Go.Maps
open Go.Proofs.YtkpadjhdneiniaaGreatDoor.Base Go.Proofs.YtkpadjhdneiniaaGreatDoor.Map Go.Proofs.YtkpadjhdneiniaaGreatDoor.Sl Go.Proofs.YtkpadjhdneiniaaGreatDoor.Ow Go.Proofs.YtkpadjhdneiniaaGreatDoor.Se

/-- the fields of each, one behind the other -/
def catF (E : List GE) (os : List Int) (i : Nat) : List Int := (os.take i).flatMap fun o => fieldsG E [o]
theorem catF_snoc (E : List GE) (os : List Int) (i : Nat) (hi : i < os.length) : catF E os (i + 1) = catF E os i ++ fieldsG E [os.getD i 0] := by
  unfold catF
  rw [List.take_succ_eq_append_getElem hi, List.flatMap_append]
  simp [List.getElem?_eq_getElem hi]
theorem catF_len (E : List GE) (os : List Int) (i : Nat) : (catF E os i).length ≤ os.length * E.length := by
  have h : ∀ l : List Int, (l.flatMap fun o => fieldsG E [o]).length ≤ l.length * E.length := fun l => by
    induction l with
    | nil => simp
    | cons f l ih =>
      rw [List.flatMap_cons, List.length_append, List.length_cons, Nat.succ_mul]
      have := fields_len E [f]
      omega
  refine Nat.le_trans (h _) (Nat.mul_le_mul_right _ ?_)
  rw [List.length_take]; exact Nat.min_le_right _ _
theorem catF_all (E : List GE) (os : List Int) (h : os ≠ []) : srtL (catF E os os.length) = fieldsG E os := by
  refine srt_ext (srt_srtL _) (srt_fieldsG _ _) fun f => ?_
  rw [mem_srtL, mem_fieldsG]
  unfold catF
  rw [List.take_length, List.mem_flatMap]
  constructor
  · rintro ⟨o, h1, h2⟩
    obtain ⟨t, ht⟩ := mem_fields1.1 h2
    exact ⟨o, t, ht, .inr h1⟩
  · rintro ⟨o, t, h1, h2⟩
    exact ⟨o, h2.resolve_left h, mem_fields1.2 ⟨t, h1⟩⟩
set_option maxHeartbeats 8000000 in
set_option maxRecDepth 100000 in
theorem fields_some (p : Nat) (T : List ByteArray) (E : List GE) (A : Option Addr) (c : Nat) (os : List Int) (w : World) (h : GA w p T E) (hu : RdI w A os) (ho : ∀ x ∈ os, ok64 x) (hl : E.length ≤ 1000) (hl2 : os.length ≤ 1000) (h0 : os ≠ []) :
    Calls Tryz.prog 66 #[.pointer (some ⟨p, 0, none⟩), .slice A os.length c] w fun e w' => ∃ v, e = .returned v ∧ OwI w' w.heap.size v (fieldsG E os) ∧ Below w.heap.size w w' := by
  have hpos : 0 < os.length := List.length_pos_iff.2 h0
  have H := Aside0.mk h
  have HU := Aside0.mk hu
  have Ho := Aside0.mk (And.intro ho h0)
  have Hl := Aside0.mk (And.intro hl hl2)
  have q0 : ((os.length : Int) == 0) = false := by rw [beq_eq_false_iff_ne]; omega
  have q1 : decide ((os.length : Int) = 0) = false := decide_eq_false (by omega)
  clear h hu ho hl hl2 h0 hpos
  go_enter Tryz.func66, Tryz.ntmps66
  go_wp2_with fail
  go_loopw [5, 9, 27] (fun V _ I wr => ∃ (i : Nat) (G : Nat → Prop), I = .int .i64 (i : Int) ∧ i ≤ os.length ∧ Aside0 (OwF wr G V (catF E os i)) ∧ Aside0 (∀ k, G k → w.heap.size ≤ k) ∧ Aside0 (Below w.heap.size w wr)) (fun _ _ I _ => os.length - (intOf I).toNat)
  case atStart => exact ⟨0, fun _ => False, rfl, Nat.zero_le _, ⟨by unfold catF; exact OwF.nil _ _⟩, ⟨fun k hk => hk.elim⟩, ⟨Below.refl _ _⟩⟩
  case round =>
    obtain ⟨i, G, rfl, hi, HO, HGb, HB⟩ := hrel
    by_cases hin : i < os.length
    · have hnb : decide ((i : Int) < (os.length : Int)) = true := decide_eq_true (by omega)
      have hnc : decide (i < os.length) = true := decide_eq_true hin
      obtain ⟨ad, rfl, hx⟩ := (HU.out.below HB.out).at_ (i : Int) (by omega) (by omega)
      rw [Int.toNat_natCast] at hx
      have i0 : 0 ≤ (i : Int) := by omega
      have i1 : (i : Int) < (os.length : Int) := by omega
      have i2 : (i : Int) ≤ 1000 := by have := Hl.out.2; omega
      have hx2 : rd os (i : Int) = os.getD i 0 := by simp [rd]
      have hsn := catF_snoc E os i hin
      obtain ⟨x, hxx⟩ : ∃ x, os.getD i 0 = x := ⟨_, rfl⟩
      rw [hx2, hxx] at hx
      rw [hxx] at hsn
      have hxm : ok64 x := Ho.out.1 x (by rw [← hxx]; exact getD_mem hin)
      obtain ⟨mb, hby⟩ := H.out.byW
      obtain ⟨vf, hvf, hrf⟩ := hby x hxm
      obtain ⟨c2, hlk⟩ := hvf wr HB.out
      have Hrf := Aside0.mk (hrf.below HB.out)
      have Hsn := Aside0.mk hsn
      have Hin := Aside0.mk hin
      have Hln := Aside0.mk (show (catF E os i).length + (fieldsG E [x]).length ≤ 2000000 by
        have h1 := catF_len E os i
        have h2 := fields_len E [x]
        have h3 : os.length * E.length ≤ 1000 * 1000 := Nat.mul_le_mul Hl.out.2 Hl.out.1
        have h4 := Hl.out.1
        omega)
      clear hin hi hx2 hxx hsn hxm hby hvf hrf
      replace i0 := eq_true i0
      replace i1 := eq_true i1
      go_wp2_with (first
        | (at_builtin; refine appF (G := G) rfl (.tmp 31) (.tmp 37) rfl _ _ (catF E os i) (fieldsG E [x]) rfl rfl HO.out Hrf.out (by have := Hln.out; omega) ?_; intro v2 w2 ho2 hc2)
        | go_in)
      have hB2 : Below w.heap.size w w2 := ((Chg.of_below HB.out (fun _ => False)).then_ hc2 (fun k hk => .inr (HGb.out k hk))).below (Nat.le_refl _) (fun k hk => hk.elim)
      have HB2 := Aside0.mk hB2
      have HG2 := Aside0.mk (show ∀ k, ext G wr w2 k → w.heap.size ≤ k from fun k hk => hk.elim (HGb.out k) (fun h => by have h1 := h.1; have h2 := HB.out.size; omega))
      have HO2 := Aside0.mk ho2
      clear ho2 hc2 hB2
      go_roundw
      case rel => exact ⟨i + 1, _, by go_num, Hin.out, ⟨by rw [Hsn.out]; exact HO2.out⟩, HG2, HB2⟩
      case measure => have := Hin.out; simp [intOf]; omega
    · have hnb : decide ((i : Int) < (os.length : Int)) = false := decide_eq_false (by omega)
      have hnc : decide (i < os.length) = false := decide_eq_false hin
      obtain rfl : i = os.length := by omega
      have HD := Aside0.mk (catF_all E os Ho.out.2)
      have Hln := Aside0.mk (show (catF E os os.length).length ≤ 2000000 by
        have h1 := catF_len E os os.length
        have h3 : os.length * E.length ≤ 1000 * 1000 := Nat.mul_le_mul Hl.out.2 Hl.out.1
        omega)
      clear hin hi
      go_wp2_with fail
      refine (sort_own _ _ G _ HO.out (by have := Hln.out; omega)).mono ?_
      rintro e w2 ⟨rfl, r1, r2⟩
      have HO2 := Aside0.mk r1
      have HB2 := Aside0.mk (show Below w.heap.size w w2 from ((Chg.of_below HB.out (fun _ => False)).then_ r2 (fun k hk => .inr (HGb.out k hk))).below (Nat.le_refl _) (fun k hk => hk.elim))
      clear r1 r2
      go_wp2_with fail
      refine (compact_own _ _ G w2 HO2.out).mono ?_
      rintro e w3 ⟨v3, rfl, r1, r2⟩
      rw [srt_compact, HD.out] at r1
      have HO3 := Aside0.mk (OwF.own r1 (base := w.heap.size) HGb.out)
      have HB3 := Aside0.mk (show Below w.heap.size w w3 from ((Chg.of_below HB2.out (fun _ => False)).then_ r2 (fun k hk => .inr (HGb.out k hk))).below (Nat.le_refl _) (fun k hk => hk.elim))
      clear r1 r2
      go_wp2_with fail
      go_ret
      exact ⟨_, rfl, HO3.out, HB3.out⟩
/-- Fields -/
theorem fields_any (p : Nat) (T : List ByteArray) (E : List GE) (u : Value) (os : List Int) (w : World) (h : GA w p T E) (hu : RdV w u os) (hE : ∀ x f y, (x, f, y) ∈ E → ok64 x) (ho : ∀ x ∈ os, ok64 x) (hl : E.length ≤ 1000) (hl2 : os.length ≤ 1000) :
    Calls Tryz.prog 66 #[.pointer (some ⟨p, 0, none⟩), u] w fun e w' => ∃ v, e = .returned v ∧ OwI w' w.heap.size v (fieldsG E os) ∧ Below w.heap.size w w' := by
  obtain ⟨A, c, rfl, hc, hr⟩ := hu
  by_cases h0 : os = []
  · subst h0
    exact fields_none p T E A c w h hE hl
  · exact fields_some p T E A c os w h hr ho hl hl2 h0
end Go.Proofs.YtkpadjhdneiniaaGreatDoor.Gr
end
