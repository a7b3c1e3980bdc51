/- graph.put: of an edge; graph.there. -/
import Derived.Test.YtfgonclaiphoeaaGreatDoorGd
namespace Go.Proofs.YtfgonclaiphoeaaGreatDoor.Gr
set_option linter.unusedVariables false
open Go.RowKit Go.Proofs.YtfgonclaiphoeaaGreatDoorW.PrintWords Go.Proofs.YtfgonclaiphoeaaGreatDoorW.PrintLast Go.Proofs.YtfgonclaiphoeaaGreatDoorW.PrintMore Go.Maps
open Go.Proofs.YtfgonclaiphoeaaGreatDoor.Base Go.Proofs.YtfgonclaiphoeaaGreatDoor.Map Go.Proofs.YtfgonclaiphoeaaGreatDoor.Sl Go.Proofs.YtfgonclaiphoeaaGreatDoor.Ow Go.Proofs.YtfgonclaiphoeaaGreatDoor.Se

/-- is there an edge of this way? -/
def KE (E : List GE) (a f : Int) : Prop := ∃ t, (a, f, t) ∈ E
/-- The graph in block p: types T, edges E. -/
def GN (w : World) (lab : Nat → Option Tag) (p : Nat) (T : List ByteArray) (E : List GE) : Prop := GX w lab p T (KE E) (fun a f => nextG E f [a]) (fun a => fieldsG E [a]) E.length
theorem GX.more {w : World} {lab : Nat → Option Tag} {p : Nat} {T : List ByteArray} {K : Int → Int → Prop} {N : Int → Int → List Int} {B : Int → List Int} {M M' : Nat} (h : GX w lab p T K N B M) (hM : M ≤ M') : GX w lab p T K N B M' := by
  obtain ⟨vT, mn, mb, fn, fb, cn, cb, g⟩ := h
  exact ⟨vT, mn, mb, fn, fb, cn, cb, ⟨g.blk, g.types, g.next, g.by_, g.base, g.lt, g.ways, g.fields, g.tail.1, by have := g.tail.2.1; omega, by have := g.tail.2.2; omega⟩⟩
theorem KE_snoc {E : List GE} {a f z a' f' : Int} : KE (E ++ [(a, f, z)]) a' f' ↔ KE E a' f' ∨ (a' = a ∧ f' = f) := by
  unfold KE
  simp only [List.mem_append, List.mem_singleton, Prod.mk.injEq]
  constructor
  · rintro ⟨t, h | ⟨h1, h2, _⟩⟩
    · exact .inl ⟨t, h⟩
    · exact .inr ⟨h1, h2⟩
  · rintro (⟨t, h⟩ | ⟨h1, h2⟩)
    · exact ⟨t, .inl h⟩
    · exact ⟨z, .inr ⟨h1, h2, rfl⟩⟩
theorem mem_next1 {E : List GE} {f a b : Int} : b ∈ nextG E f [a] ↔ (a, f, b) ∈ E := by
  rw [mem_nextG]; simp
theorem mem_fields1 {E : List GE} {a f : Int} : f ∈ fieldsG E [a] ↔ KE E a f := by
  rw [mem_fieldsG]
  constructor
  · rintro ⟨a', b, h, h2⟩
    simp at h2; subst h2; exact ⟨b, h⟩
  · rintro ⟨t, h⟩; exact ⟨a, t, h, .inr (by simp)⟩
theorem next_snoc (E : List GE) (a f z : Int) (a' f' : Int) : nextG (E ++ [(a, f, z)]) f' [a'] = if a' = a ∧ f' = f then ins (nextG E f [a]) z else nextG E f' [a'] := by
  split
  · next h =>
    obtain ⟨rfl, rfl⟩ := h
    refine srt_ext (srt_nextG _ _ _) (srt_ins (srt_nextG _ _ _) _) fun x => ?_
    rw [mem_ins, mem_next1, mem_next1, List.mem_append, List.mem_singleton]
    constructor
    · rintro (h | h)
      · exact .inr h
      · cases h; exact .inl rfl
    · rintro (rfl | h)
      · exact .inr rfl
      · exact .inl h
  · next h =>
    refine srt_ext (srt_nextG _ _ _) (srt_nextG _ _ _) fun x => ?_
    rw [mem_next1, mem_next1, List.mem_append, List.mem_singleton]
    refine ⟨fun h2 => h2.elim id (fun e => absurd (by cases e; exact ⟨rfl, rfl⟩) h), .inl⟩
theorem next_none {E : List GE} {a f : Int} (h : ¬ KE E a f) : nextG E f [a] = [] := List.eq_nil_iff_forall_not_mem.2 fun x hx => h ⟨x, mem_next1.1 hx⟩
theorem fields_snoc (E : List GE) (a f z : Int) (a' : Int) : fieldsG (E ++ [(a, f, z)]) [a'] = if a' = a then ins (fieldsG E [a]) f else fieldsG E [a'] := by
  split
  · next h =>
    subst h
    refine srt_ext (srt_fieldsG _ _) (srt_ins (srt_fieldsG _ _) _) fun x => ?_
    rw [mem_ins, mem_fields1, mem_fields1, KE_snoc]
    constructor
    · rintro (h | h)
      · exact .inr h
      · exact .inl h.2
    · rintro (rfl | h)
      · exact .inr ⟨rfl, rfl⟩
      · exact .inl h
  · next h =>
    refine srt_ext (srt_fieldsG _ _) (srt_fieldsG _ _) fun x => ?_
    rw [mem_fields1, mem_fields1, KE_snoc]
    exact ⟨fun h2 => h2.elim id (fun e => absurd e.1 h), .inl⟩
theorem fields_len (E : List GE) (os : List Int) : (fieldsG E os).length ≤ E.length := by
  have h : ∀ l ns : List Int, (insL l ns).length ≤ l.length + ns.length := fun l ns => by
    induction ns generalizing l with
    | nil => simp [insL]
    | cons n ns ih =>
      have h1 : insL l (n :: ns) = insL (ins l n) ns := rfl
      have h2 := ins_len_le l n
      have h3 := ih (ins l n)
      rw [h1]; simp only [List.length_cons]; omega
  have h1 := h [] ((E.filter fun e => os.isEmpty || os.contains e.1).map (·.2.1))
  have h2 := List.length_filter_le (fun e : GE => os.isEmpty || os.contains e.1) E
  unfold fieldsG srtL
  rw [List.length_map, List.length_nil, Nat.zero_add] at h1
  exact Nat.le_trans h1 h2
/-- an edge has been put -/
def PutE (w : World) (lab : Nat → Option Tag) (p : Nat) (T : List ByteArray) (E : List GE) (e : Ending) (w' : World) : Prop :=
  e = .returned (.tuple #[]) ∧ ∃ lab', GN w' lab' p T E ∧ (∀ k, lab' k ≠ none → lab k ≠ none ∨ (w.heap.size ≤ k ∧ k < w'.heap.size)) ∧ Chg (fun k => lab k ≠ none) w w'
theorem put_any (p : Nat) (lab : Nat → Option Tag) (T : List ByteArray) (E : List GE) (a f z : Int) (w : World) (h : GN w lab p T E) (ha : ok64 a) (hf : ok64 f) (hz : 0 ≤ z ∧ z < 1048576) (hE : E.length ≤ 1000000) :
    Calls Tryz.prog 24 #[.pointer (some ⟨p, 0, none⟩), .agg #[.int .i64 a, .int .i64 f], .int .i64 z] w (PutE w lab p T (E ++ [(a, f, z)])) := by
  have hadd : ∀ l, addL l z = ins l z := fun l => if_pos hz
  by_cases hK : KE E a f
  · refine (put_old p lab T _ _ _ _ a f z w h ha hf hK).mono ?_
    rintro e w' ⟨h1, lab', h2, h3⟩
    refine ⟨h1, lab', (h2.more (M' := (E ++ [(a, f, z)]).length) (by simp)).ext (fun a' f' => ?_) (fun a' f' hk => ?_) (fun a' => ?_), h3⟩
    · rw [KE_snoc]; exact ⟨fun h => h.elim id (fun e => by rw [e.1, e.2]; exact hK), .inl⟩
    · show nextG _ _ _ = updN _ _ _ _ _ _
      unfold updN
      rw [next_snoc, hadd]
    · show fieldsG _ _ = fieldsG _ _
      rw [fields_snoc]
      split
      · next e => subst e; rw [ins_old (mem_fields1.2 hK)]
      · rfl
  · refine (put_new p lab T _ _ _ _ a f z w h ha hf hK (fun h => hK (mem_fields1.1 h)) hE (Nat.le_trans (fields_len _ _) hE)).mono ?_
    rintro e w' ⟨h1, lab', h2, h3⟩
    refine ⟨h1, lab', (h2.more (M' := (E ++ [(a, f, z)]).length) (by simp)).ext (fun a' f' => KE_snoc) (fun a' f' hk => ?_) (fun a' => ?_), h3⟩
    · show nextG _ _ _ = updN _ _ _ _ _ _
      unfold updN
      rw [next_snoc, hadd, next_none hK]
    · show fieldsG _ _ = updB _ _ _ _
      unfold updB
      rw [fields_snoc]
set_option maxHeartbeats 1000000 in
theorem there_blk (p : Nat) (A : Option Addr) (n c : Nat) (v1 v2 : Value) (x : Int) (w : World) (hb : w.heap[p]? = some (.cells #[.slice A n c, v1, v2] 50 (0, 0))) :
    Calls Tryz.prog 23 #[.pointer (some ⟨p, 0, none⟩), .int .i64 x] w fun e w' => e = .returned (.bool (decide (0 ≤ x ∧ x < n))) ∧ w = w' := by
  have c0 : w.cell? ⟨p, 0, none⟩ = some (.slice A n c) := blk_cell hb 0
  by_cases h0 : 0 ≤ x
  · by_cases h1 : x < n
    · have d : decide (0 ≤ x ∧ x < (n : Int)) = true := decide_eq_true ⟨h0, h1⟩
      rw [d]
      go_enter Tryz.func23, Tryz.ntmps23
      go_wp2
      go_ret
      exact ⟨rfl, rfl⟩
    · have d : decide (0 ≤ x ∧ x < (n : Int)) = false := decide_eq_false (fun h => h1 h.2)
      have h2 : (n : Int) ≤ x := by omega
      rw [d]
      go_enter Tryz.func23, Tryz.ntmps23
      go_wp2
      go_ret
      exact ⟨rfl, rfl⟩
  · have d : decide (0 ≤ x ∧ x < (n : Int)) = false := decide_eq_false (fun h => h0 h.1)
    have h2 : x < 0 := by omega
    rw [d]
    go_enter Tryz.func23, Tryz.ntmps23
    go_wp2
    go_ret
    exact ⟨rfl, rfl⟩
theorem GX.typesV {w : World} {lab : Nat → Option Tag} {p : Nat} {T : List ByteArray} {K : Int → Int → Prop} {N : Int → Int → List Int} {B : Int → List Int} {M : Nat} (h : GX w lab p T K N B M) : ∃ (A : Option Addr) (c : Nat) (v1 v2 : Value), w.heap[p]? = some (.cells #[.slice A T.length c, v1, v2] 50 (0, 0)) ∧ Kd.C Kd.string w A T.length T := by
  obtain ⟨vT, mn, mb, fn, fb, cn, cb, g⟩ := h
  obtain ⟨A, c, rfl, _, hr⟩ := Kd.R_reads g.types
  exact ⟨A, c, _, _, g.blk, hr⟩
theorem there_any (p : Nat) (lab : Nat → Option Tag) (T : List ByteArray) (E : List GE) (x : Int) (w : World) (h : GN w lab p T E) :
    Calls Tryz.prog 23 #[.pointer (some ⟨p, 0, none⟩), .int .i64 x] w fun e w' => e = .returned (.bool (decide (0 ≤ x ∧ x < T.length))) ∧ w = w' := by
  obtain ⟨A, c, v1, v2, hb, _⟩ := GX.typesV h
  exact there_blk p A T.length c v1 v2 x w hb
end Go.Proofs.YtfgonclaiphoeaaGreatDoor.Gr
