/- Stable refinement, plainly: the coarsest partition below a map that leads alike. -/
import Derived.Test.YtkpadjhdneiniaaGreatDoorSl
namespace Go.Proofs.YtkpadjhdneiniaaGreatDoor.St
open Go.Proofs.YtkpadjhdneiniaaGreatDoor.Sl
set_option linter.unusedVariables false

/-- the class of an object -/
abbrev cl (to : List Int) (i : Nat) : Int := to.getD i 0
/-- an edge between objects by number -/
def Ed (E : List GE) (i : Nat) (f : Int) (x : Nat) : Prop := ((i : Int), f, (x : Int)) ∈ E
/-- a relation that leads alike -/
structure Bis (n : Nat) (E : List GE) (to : List Int) (R : Nat → Nat → Prop) : Prop where
  lt : ∀ i k, R i k → i < n ∧ k < n
  symm : ∀ i k, R i k → R k i
  same : ∀ i k, R i k → cl to i = cl to k
  step : ∀ i k, R i k → ∀ f x, Ed E i f x → ∃ y, Ed E k f y ∧ R x y
/-- the greatest such -/
def Rel (n : Nat) (E : List GE) (to : List Int) (i k : Nat) : Prop := ∃ R, Bis n E to R ∧ R i k
section
variable {n : Nat} {E : List GE} {to out : List Int}
theorem rel_bis : Bis n E to (Rel n E to) :=
  ⟨fun i k ⟨R, h, r⟩ => h.lt i k r, fun i k ⟨R, h, r⟩ => ⟨R, h, h.symm i k r⟩, fun i k ⟨R, h, r⟩ => h.same i k r, fun i k ⟨R, h, r⟩ f x e => by
    obtain ⟨y, h1, h2⟩ := h.step i k r f x e
    exact ⟨y, h1, R, h, h2⟩⟩
/-- heads: each object's class is told by its least object -/
structure Hd (n : Nat) (to : List Int) : Prop where
  len : to.length = n
  head : ∀ i, i < n → ∃ h, cl to i = (h : Nat) ∧ h ≤ i ∧ cl to h = (h : Nat)
theorem Hd.least (h : Hd n to) {i k : Nat} (hi : i < n) (hk : k < n) (e : cl to i = cl to k) : cl to i ≤ (k : Nat) := by
  obtain ⟨a, h1, h2, _⟩ := h.head k hk
  rw [e, h1]; omega
/-- the marks of an object: fields, and the classes to which they lead -/
def clsG (E : List GE) (to : List Int) (f : Int) (o : Int) : List Int := srtL ((nextG E f [o]).map fun x => to.getD x.toNat 0)
def marksG (E : List GE) (to : List Int) (o : Int) : List (Int × Int) := (fieldsG E [o]).flatMap fun f => (clsG E to f o).map fun c => (f, c)
theorem mem_marks (hR : RightG n E) {i : Nat} {f c : Int} : (f, c) ∈ marksG E to (i : Nat) ↔ ∃ x, Ed E i f x ∧ cl to x = c := by
  unfold marksG clsG
  rw [List.mem_flatMap]
  constructor
  · rintro ⟨f', _, h⟩
    obtain ⟨c', hc, e⟩ := List.mem_map.1 h
    cases e
    rw [mem_srtL, List.mem_map] at hc
    obtain ⟨x, hx, rfl⟩ := hc
    obtain ⟨a, ha, hm⟩ := mem_nextG.1 hx
    rw [List.mem_singleton] at hm; subst hm
    have := hR _ ha
    obtain ⟨m, rfl⟩ := Int.eq_ofNat_of_zero_le this.2.2.1
    exact ⟨m, ha, by simp⟩
  · rintro ⟨x, hx, rfl⟩
    refine ⟨f, mem_fieldsG.2 ⟨_, _, hx, .inr (by simp)⟩, List.mem_map.2 ⟨_, ?_, rfl⟩⟩
    rw [mem_srtL, List.mem_map]
    exact ⟨(x : Int), mem_nextG.2 ⟨_, hx, by simp⟩, by simp⟩
theorem flatMap_congr {α β : Type} {l : List α} {f g : α → List β} (h : ∀ a ∈ l, f a = g a) : l.flatMap f = l.flatMap g := by
  induction l with
  | nil => rfl
  | cons a l ih => rw [List.flatMap_cons, List.flatMap_cons, h a (by simp), ih fun b hb => h b (by simp [hb])]
/-- marks are told by what they hold -/
theorem marks_ext {E' : List GE} {to' : List Int} {o o' : Int} (hf : fieldsG E [o] = fieldsG E' [o']) (h : ∀ f ∈ fieldsG E [o], clsG E to f o = clsG E' to' f o') : marksG E to o = marksG E' to' o' := by
  unfold marksG
  rw [← hf]
  exact flatMap_congr fun f hf => by rw [h f hf]
theorem marks_eq (hR : RightG n E) {i k : Nat} : marksG E to (i : Nat) = marksG E to (k : Nat) ↔ ∀ f c, (∃ x, Ed E i f x ∧ cl to x = c) ↔ ∃ y, Ed E k f y ∧ cl to y = c := by
  constructor
  · intro h f c
    rw [← mem_marks hR, ← mem_marks hR, h]
  · intro h
    have hF : fieldsG E [(i : Int)] = fieldsG E [(k : Int)] := srt_ext (srt_fieldsG _ _) (srt_fieldsG _ _) fun f => by
      have aux : ∀ (a b : Nat), (∀ f c, (∃ x, Ed E a f x ∧ cl to x = c) ↔ ∃ y, Ed E b f y ∧ cl to y = c) → f ∈ fieldsG E [(a : Int)] → f ∈ fieldsG E [(b : Int)] := fun a b h hm => by
        obtain ⟨a', z, h1, h2⟩ := mem_fieldsG.1 hm
        have ha : a' = (a : Int) := by simpa using h2
        subst ha
        have := hR _ h1
        obtain ⟨m, rfl⟩ := Int.eq_ofNat_of_zero_le this.2.2.1
        obtain ⟨y, hy, _⟩ := (h f (cl to m)).1 ⟨m, h1, rfl⟩
        exact mem_fieldsG.2 ⟨_, _, hy, .inr (by simp)⟩
      exact ⟨aux i k h, aux k i (fun f c => (h f c).symm)⟩
    refine marks_ext hF fun f _ => ?_
    unfold clsG
    refine srt_ext (srt_srtL _) (srt_srtL _) fun c => ?_
    have aux : ∀ (a : Nat), c ∈ srtL ((nextG E f [(a : Int)]).map fun x => to.getD x.toNat 0) ↔ ∃ x, Ed E a f x ∧ cl to x = c := fun a => by
      rw [mem_srtL, List.mem_map]
      constructor
      · rintro ⟨x, hx, rfl⟩
        obtain ⟨a', ha, hm⟩ := mem_nextG.1 hx
        rw [List.mem_singleton] at hm; subst hm
        have := hR _ ha
        obtain ⟨m, rfl⟩ := Int.eq_ofNat_of_zero_le this.2.2.1
        exact ⟨m, ha, by simp⟩
      · rintro ⟨x, hx, rfl⟩
        exact ⟨(x : Int), mem_nextG.2 ⟨_, hx, by simp⟩, by simp⟩
    rw [aux i, aux k]; exact h f c
/-- a map that leads alike -/
def Stab (n : Nat) (E : List GE) (to : List Int) : Prop := ∀ i, i < n → marksG E to (i : Nat) = marksG E to (cl to i)
/-- one object has the marks of another, as far as all that leads alike is one -/
theorem rel_marks (hR : RightG n E) (hc : ∀ i k, Rel n E to i k → cl out i = cl out k) {i k : Nat} (h : Rel n E to i k) : marksG E out (i : Nat) = marksG E out (k : Nat) := by
  refine (marks_eq hR).2 fun f c => ⟨?_, ?_⟩
  · rintro ⟨x, ex, rfl⟩
    obtain ⟨y, ey, r⟩ := rel_bis.step _ _ h f x ex
    exact ⟨y, ey, (hc _ _ r).symm⟩
  · rintro ⟨x, ex, rfl⟩
    obtain ⟨y, ey, r⟩ := rel_bis.step _ _ (rel_bis.symm _ _ h) f x ex
    exact ⟨y, ey, (hc _ _ r).symm⟩
/-- while it is refined -/
structure Part (n : Nat) (E : List GE) (to out : List Int) : Prop where
  hd : Hd n out
  fine : ∀ i k, i < n → k < n → cl out i = cl out k → cl to i = cl to k
  keep : ∀ i k, Rel n E to i k → cl out i = cl out k
theorem Part.start (hd : Hd n to) : Part n E to to := ⟨hd, fun _ _ _ _ h => h, fun i k h => rel_bis.same i k h⟩
/-- the coarsest refinement: each object's least fellow -/
structure IsRef (n : Nat) (E : List GE) (to out : List Int) : Prop where
  hd : Hd n out
  rel : ∀ i k, i < n → k < n → (cl out i = cl out k ↔ Rel n E to i k)
/-- one split: objects of one class that are marked alike -/
def SplitOf (n : Nat) (E : List GE) (out out' : List Int) : Prop :=
  out'.length = n ∧ ∀ i, i < n → ∃ h, cl out' i = (h : Nat) ∧ h ≤ i ∧ (cl out h = cl out i ∧ marksG E out (h : Nat) = marksG E out (i : Nat)) ∧ ∀ k, k < h → ¬ (cl out k = cl out i ∧ marksG E out (k : Nat) = marksG E out (i : Nat))
theorem split_same {out' : List Int} (h : SplitOf n E out out') {i k : Nat} (hi : i < n) (hk : k < n) : cl out' i = cl out' k ↔ cl out i = cl out k ∧ marksG E out (i : Nat) = marksG E out (k : Nat) := by
  obtain ⟨a, a1, a2, a3, a4⟩ := h.2 i hi
  obtain ⟨b, b1, b2, b3, b4⟩ := h.2 k hk
  constructor
  · intro e
    rw [a1, b1] at e
    have e : a = b := by omega
    subst e
    exact ⟨a3.1.symm.trans b3.1, a3.2.symm.trans b3.2⟩
  · rintro ⟨e1, e2⟩
    rw [a1, b1]
    rcases Nat.lt_trichotomy a b with h1 | h1 | h1
    · exact absurd ⟨a3.1.trans e1, a3.2.trans e2⟩ (b4 a h1)
    · rw [h1]
    · exact absurd ⟨b3.1.trans e1.symm, b3.2.trans e2.symm⟩ (a4 b h1)
theorem Part.split (hR : RightG n E) {out' : List Int} (h : Part n E to out) (hs : SplitOf n E out out') : Part n E to out' := by
  refine ⟨⟨hs.1, fun i hi => ?_⟩, fun i k hi hk e => h.fine i k hi hk ((split_same hs hi hk).1 e).1, fun i k r => ?_⟩
  · obtain ⟨a, a1, a2, a3, a4⟩ := hs.2 i hi
    refine ⟨a, a1, a2, ?_⟩
    rw [← a1]
    exact (split_same hs (by omega) hi).2 a3
  · exact (split_same hs (rel_bis.lt _ _ r).1 (rel_bis.lt _ _ r).2).2 ⟨h.keep i k r, rel_marks hR h.keep r⟩
theorem Part.same (hd : Hd n out) (hs : SplitOf n E out out) : Stab n E out := fun i hi => by
  obtain ⟨k, h1, h2, h3⟩ := hd.head i hi
  rw [h1]
  exact (((split_same hs (by omega) hi).1 (h3.trans h1.symm)).2).symm
end
end Go.Proofs.YtkpadjhdneiniaaGreatDoor.St
