/- Km, Kn -/
import Derived.Test.YtkpadjhdneiniaaDoorSt
/- Km: The document's refinement, plainly: a table of what is one, till no pair falls. -/
section
namespace Go.Proofs.YtkpadjhdneiniaaDoor.St
open Go.Proofs.YtkpadjhdneiniaaDoor.Sl
set_option linter.unusedVariables false

abbrev Tbl := Nat → Nat → Bool
/-- is each edge of a met by one of b? -/
def Alk (E : List GE) (one : Tbl) (a b : Nat) : Prop := ∀ e ∈ E, e.1 = (a : Int) → ∃ e' ∈ E, e'.1 = (b : Int) ∧ e'.2.1 = e.2.1 ∧ one e.2.2.toNat e'.2.2.toNat = true
/-- two fall apart -/
def drop2 (one : Tbl) (i k : Nat) : Tbl := fun a b => if (a = i ∧ b = k) ∨ (a = k ∧ b = i) then false else one a b
structure TabI (n : Nat) (E : List GE) (to : List Int) (one : Tbl) : Prop where
  symm : ∀ i k, one i k = one k i
  same : ∀ i k, i < n → k < n → one i k = true → cl to i = cl to k
  keep : ∀ i k, Rel n E to i k → one i k = true
section
variable {n : Nat} {E : List GE} {to : List Int} {one : Tbl}
theorem TabI.start : TabI n E to (fun i k => cl to i == cl to k) :=
  ⟨fun i k => by rw [Bool.eq_iff_iff, beq_iff_eq, beq_iff_eq]; exact ⟨Eq.symm, Eq.symm⟩, fun i k _ _ h => by simpa using h, fun i k h => by simpa using rel_bis.same i k h⟩
theorem alike_rel (hR : RightG n E) (h : TabI n E to one) {i k : Nat} (hr : Rel n E to i k) : Alk E one i k := by
  rintro ⟨a, f, z⟩ he ha
  have hb := hR _ he
  obtain ⟨x, hx⟩ := Int.eq_ofNat_of_zero_le hb.2.2.1
  simp only at ha hx
  subst ha; subst hx
  obtain ⟨y, ey, ry⟩ := rel_bis.step i k hr f x he
  exact ⟨_, ey, rfl, rfl, by simpa using h.keep x y ry⟩
theorem TabI.drop (hR : RightG n E) (h : TabI n E to one) {i k : Nat} (hf : ¬ Alk E one i k ∨ ¬ Alk E one k i) : TabI n E to (drop2 one i k) := by
  refine ⟨fun a b => ?_, fun a b ha hb hab => h.same a b ha hb ?_, fun a b hab => ?_⟩
  · unfold drop2
    have : ((a = i ∧ b = k) ∨ (a = k ∧ b = i)) ↔ ((b = i ∧ a = k) ∨ (b = k ∧ a = i)) := by
      constructor <;> rintro (⟨h1, h2⟩ | ⟨h1, h2⟩)
      · exact .inr ⟨h2, h1⟩
      · exact .inl ⟨h2, h1⟩
      · exact .inr ⟨h2, h1⟩
      · exact .inl ⟨h2, h1⟩
    by_cases hc : (a = i ∧ b = k) ∨ (a = k ∧ b = i)
    · rw [if_pos hc, if_pos (this.1 hc)]
    · rw [if_neg hc, if_neg (fun h => hc (this.2 h))]; exact h.symm a b
  · unfold drop2 at hab
    split at hab
    · cases hab
    · exact hab
  · unfold drop2
    rw [if_neg]
    · exact h.keep a b hab
    · rintro (⟨rfl, rfl⟩ | ⟨rfl, rfl⟩)
      · exact hf.elim (fun h2 => h2 (alike_rel hR h hab)) (fun h2 => h2 (alike_rel hR h (rel_bis.symm _ _ hab)))
      · exact hf.elim (fun h2 => h2 (alike_rel hR h (rel_bis.symm _ _ hab))) (fun h2 => h2 (alike_rel hR h hab))
/-- where no pair falls, the table is what leads alike -/
theorem TabI.done (hR : RightG n E) (h : TabI n E to one) (hs : ∀ i k, i < n → k < n → one i k = true → Alk E one i k ∧ Alk E one k i) {i k : Nat} (hi : i < n) (hk : k < n) : one i k = true ↔ Rel n E to i k := by
  refine ⟨fun ho => ⟨fun a b => a < n ∧ b < n ∧ one a b = true, ⟨fun a b h => ⟨h.1, h.2.1⟩, fun a b hab => ⟨hab.2.1, hab.1, by rw [h.symm]; exact hab.2.2⟩, fun a b hab => h.same a b hab.1 hab.2.1 hab.2.2, fun a b hab f x ex => ?_⟩, hi, hk, ho⟩, h.keep i k⟩
  obtain ⟨⟨a', f', z⟩, he, e1, e2, e3⟩ := (hs a b hab.1 hab.2.1 hab.2.2).1 _ ex rfl
  simp only at e1 e2 e3
  subst e1; subst e2
  have hb := hR _ he
  obtain ⟨y, hy⟩ := Int.eq_ofNat_of_zero_le hb.2.2.1
  simp only at hy; subst hy
  exact ⟨y, he, (edges_lt hR ex).2, (edges_lt hR he).2, by simpa using e3⟩
/-! how many pairs there are -/
def cntRow (one : Tbl) (i : Nat) : Nat → Nat
  | 0 => 0
  | k + 1 => cntRow one i k + if one i k then 1 else 0
def cnt (one : Tbl) (n : Nat) : Nat → Nat
  | 0 => 0
  | i + 1 => cnt one n i + cntRow one i n
theorem cntRow_le {o o' : Tbl} {i : Nat} (h : ∀ k, o' i k = true → o i k = true) : ∀ k, cntRow o' i k ≤ cntRow o i k
  | 0 => Nat.le_refl _
  | k + 1 => by
    have := cntRow_le h k
    unfold cntRow
    by_cases h' : o' i k = true
    · rw [h', h k h']; omega
    · simp only [Bool.not_eq_true] at h'
      rw [h']; simp; omega
theorem cnt_le {o o' : Tbl} (h : ∀ i k, o' i k = true → o i k = true) (n : Nat) : ∀ i, cnt o' n i ≤ cnt o n i
  | 0 => Nat.le_refl _
  | i + 1 => by
    have h1 := cnt_le h n i
    have h2 := cntRow_le (fun k => h i k) n
    unfold cnt; omega
theorem cntRow_lt {o o' : Tbl} {i : Nat} (h : ∀ k, o' i k = true → o i k = true) {j : Nat} (hj : o i j = true) (hj' : o' i j = false) : ∀ k, j < k → cntRow o' i k < cntRow o i k
  | 0, hk => absurd hk (by omega)
  | k + 1, hk => by
    have hle := cntRow_le h k
    unfold cntRow
    by_cases e : j = k
    · subst e; rw [hj, hj']; simp; omega
    · have := cntRow_lt h hj hj' k (by omega)
      by_cases h' : o' i k = true
      · rw [h', h k h']; omega
      · simp only [Bool.not_eq_true] at h'
        rw [h']; simp; omega
theorem cnt_lt {o o' : Tbl} (h : ∀ i k, o' i k = true → o i k = true) {n i0 j : Nat} (hjn : j < n) (hj : o i0 j = true) (hj' : o' i0 j = false) : ∀ i, i0 < i → cnt o' n i < cnt o n i
  | 0, hk => absurd hk (by omega)
  | i + 1, hk => by
    have h1 := cnt_le h n i
    unfold cnt
    by_cases e : i0 = i
    · subst e
      have := cntRow_lt (fun k => h i0 k) hj hj' n hjn
      omega
    · have := cnt_lt h hjn hj hj' i (by omega)
      have h2 := cntRow_le (fun k => h i k) n
      omega
theorem cntRow_n (o : Tbl) (i : Nat) : ∀ k, cntRow o i k ≤ k
  | 0 => Nat.le_refl _
  | k + 1 => by have := cntRow_n o i k; unfold cntRow; split <;> omega
theorem cnt_n (o : Tbl) (n : Nat) : ∀ i, cnt o n i ≤ i * n
  | 0 => by simp [cnt]
  | i + 1 => by have h1 := cnt_n o n i; have h2 := cntRow_n o i n; unfold cnt; rw [Nat.succ_mul]; omega
theorem drop2_le {o : Tbl} {i k : Nat} : ∀ a b, drop2 o i k a b = true → o a b = true := fun a b h => by
  unfold drop2 at h
  split at h
  · cases h
  · exact h
theorem cnt_drop {o : Tbl} {i k : Nat} (hi : i < n) (hk : k < n) (h : o i k = true) : cnt (drop2 o i k) n n < cnt o n n :=
  cnt_lt drop2_le hk h (by unfold drop2; rw [if_pos (.inl ⟨rfl, rfl⟩)]) n hi
/-- one pass over all pairs, while it goes: ag tells whether a pair has fallen -/
structure Pass (n : Nat) (E : List GE) (to : List Int) (c0 : Nat) (i k : Nat) (ag : Bool) (one : Tbl) : Prop where
  tab : TabI n E to one
  cnt_le : cnt one n n ≤ c0
  fell : ag = true → cnt one n n < c0
  fine : ag = false → ∀ a b, a < n → b < n → (a < i ∨ (a = i ∧ b < k)) → one a b = true → Alk E one a b ∧ Alk E one b a
theorem Pass.start (h : TabI n E to one) : Pass n E to (cnt one n n) 0 0 false one := ⟨h, Nat.le_refl _, fun h => by (cases h), fun _ a b _ _ h => by omega⟩
theorem Pass.row {c0 i : Nat} {ag : Bool} (h : Pass n E to c0 i n ag one) : Pass n E to c0 (i + 1) 0 ag one := ⟨h.tab, h.cnt_le, h.fell, fun ha a b han hbn hab => h.fine ha a b han hbn (by omega)⟩
theorem Pass.skip {c0 i k : Nat} {ag : Bool} (h : Pass n E to c0 i k ag one) (hk : one i k = true → Alk E one i k ∧ Alk E one k i) : Pass n E to c0 i (k + 1) ag one := ⟨h.tab, h.cnt_le, h.fell, fun ha a b han hbn hab ho => by
  by_cases e : a = i ∧ b = k
  · obtain ⟨rfl, rfl⟩ := e; exact hk ho
  · exact h.fine ha a b han hbn (by omega) ho⟩
theorem Pass.fall {c0 i k : Nat} {ag : Bool} (hR : RightG n E) (h : Pass n E to c0 i k ag one) (hi : i < n) (hk : k < n) (ho : one i k = true) (hf : ¬ Alk E one i k ∨ ¬ Alk E one k i) : Pass n E to c0 i (k + 1) true (drop2 one i k) := by
  have h1 := cnt_drop hi hk ho
  have h2 := h.cnt_le
  exact ⟨h.tab.drop hR hf, by omega, fun _ => by omega, fun h => by cases h⟩
/-- each object's least fellow -/
structure Firsts (one : Tbl) (m : Nat) (out : List Int) : Prop where
  len : out.length = m
  at_ : ∀ i, i < m → ∃ h : Nat, cl out i = (h : Int) ∧ one i h = true ∧ ∀ k, k < h → one i k = false
theorem Firsts.nil (one : Tbl) : Firsts one 0 [] := ⟨rfl, fun i h => absurd h (by omega)⟩
theorem Firsts.snoc {m : Nat} {out : List Int} (h : Firsts one m out) {q : Nat} (h1 : one m q = true) (h2 : ∀ k, k < q → one m k = false) : Firsts one (m + 1) (out ++ [(q : Int)]) := by
  refine ⟨by rw [List.length_append, h.len]; rfl, fun i hi => ?_⟩
  by_cases e : i = m
  · subst e
    refine ⟨q, ?_, h1, h2⟩
    rw [cl, List.getD_eq_getElem?_getD, List.getElem?_append_right (by rw [h.len]; exact Nat.le_refl _), h.len]; simp
  · obtain ⟨a, e1, e2, e3⟩ := h.at_ i (by omega)
    refine ⟨a, ?_, e2, e3⟩
    rw [← e1, cl, cl, List.getD_eq_getElem?_getD, List.getD_eq_getElem?_getD, List.getElem?_append_left (by rw [h.len]; omega)]
theorem Firsts.ref {out : List Int} (hR : RightG n E) (hone : ∀ i k, i < n → k < n → (one i k = true ↔ Rel n E to i k)) (h : Firsts one n out) : IsRef n E to out := by
  have key : ∀ i, i < n → ∃ h : Nat, cl out i = (h : Int) ∧ h ≤ i ∧ Rel n E to i h ∧ ∀ k, k < h → ¬ Rel n E to i k := fun i hi => by
    obtain ⟨a, e1, e2, e3⟩ := h.at_ i hi
    have hii : one i i = true := (hone i i hi hi).2 (rel_refl hR hi)
    have hai : a ≤ i := by
      rcases Nat.lt_or_ge i a with hl | hl
      · have := e3 i hl; rw [hii] at this; cases this
      · exact hl
    exact ⟨a, e1, hai, (hone i a hi (by omega)).1 e2, fun k hk hr => by
      have := e3 k hk
      rw [(hone i k hi (by omega)).2 hr] at this; cases this⟩
  refine ⟨⟨h.len, fun i hi => ?_⟩, fun i k hi hk => ?_⟩
  · obtain ⟨a, e1, e2, e3, e4⟩ := key i hi
    refine ⟨a, e1, e2, ?_⟩
    obtain ⟨b, f1, f2, f3, f4⟩ := key a (by omega)
    rw [f1]
    rcases Nat.lt_or_ge b a with hl | hl
    · exact absurd (rel_trans e3 f3) (e4 b hl)
    · have : b = a := by omega
      rw [this]
  · obtain ⟨a, e1, e2, e3, e4⟩ := key i hi
    obtain ⟨b, f1, f2, f3, f4⟩ := key k hk
    rw [e1, f1]
    constructor
    · intro e
      have : a = b := by omega
      subst this
      exact rel_trans e3 (rel_bis.symm _ _ f3)
    · intro r
      rcases Nat.lt_trichotomy a b with hl | hl | hl
      · exact absurd (rel_trans (rel_bis.symm _ _ r) e3) (f4 a hl)
      · rw [hl]
      · exact absurd (rel_trans r f3) (e4 b hl)
end
end Go.Proofs.YtkpadjhdneiniaaDoor.St
end

/- Kn: How far a map may still be split; what the marks' refinement is, plainly. -/
section
namespace Go.Proofs.YtkpadjhdneiniaaDoor.St
open Go.Proofs.YtkpadjhdneiniaaDoor.Sl
set_option linter.unusedVariables false

/-- how far classes may still fall apart -/
def far (out : List Int) : Nat → Nat
  | 0 => 0
  | i + 1 => far out i + (i - (cl out i).toNat)
theorem far_le {a b : List Int} : ∀ n, (∀ i, i < n → 0 ≤ cl a i ∧ cl a i ≤ cl b i) → far b n ≤ far a n
  | 0, _ => Nat.le_refl _
  | n + 1, h => by
    have h1 := far_le n (fun i hi => h i (by omega))
    have h2 := h n (by omega)
    unfold far; omega
theorem far_lt {a b : List Int} : ∀ n, (∀ i, i < n → 0 ≤ cl a i ∧ cl a i ≤ cl b i ∧ cl b i ≤ (i : Nat)) → ∀ {i : Nat}, i < n → cl a i < cl b i → far b n < far a n
  | 0, _, i, hi, _ => absurd hi (by omega)
  | n + 1, h, i, hi, hl => by
    have h1 := far_le n (fun i hi => ⟨(h i (by omega)).1, (h i (by omega)).2.1⟩)
    have h2 := h n (by omega)
    unfold far
    by_cases e : i = n
    · subst e; omega
    · have := far_lt n (fun i hi => h i (by omega)) (i := i) (by omega) hl
      omega
theorem far_n (a : List Int) : ∀ n, far a n ≤ n * n
  | 0 => Nat.le_refl _
  | n + 1 => by have h1 := far_n a n; unfold far; rw [Nat.succ_mul, Nat.mul_succ]; omega
section
variable {n : Nat} {E : List GE} {to out out' : List Int}
theorem split_up (hd : Hd n out) (hs : SplitOf n E out out') {i : Nat} (hi : i < n) : 0 ≤ cl out i ∧ cl out i ≤ cl out' i ∧ cl out' i ≤ (i : Nat) := by
  obtain ⟨a, a1, a2, a3, a4⟩ := hs.2 i hi
  obtain ⟨h, h1, h2, h3⟩ := hd.head i hi
  refine ⟨by rw [h1]; omega, ?_, by rw [a1]; omega⟩
  rw [a1]
  exact hd.least hi (by omega) a3.1.symm
theorem split_far (hd : Hd n out) (hs : SplitOf n E out out') (hne : out' ≠ out) : far out' n < far out n := by
  by_cases h : ∃ i, i < n ∧ cl out i < cl out' i
  · obtain ⟨i, hi, hl⟩ := h
    exact far_lt n (fun i hi => split_up hd hs hi) hi hl
  · exfalso
    apply hne
    apply List.ext_getElem (hs.1.trans hd.len.symm)
    intro i h1 h2
    have hi : i < n := by rw [← hs.1]; exact h1
    have e1 := (split_up hd hs hi).2.1
    have e2 : ¬ cl out i < cl out' i := fun hl => h ⟨i, hi, hl⟩
    rw [cl, cl, List.getD_eq_getElem?_getD, List.getD_eq_getElem?_getD, List.getElem?_eq_getElem h1, List.getElem?_eq_getElem h2] at e1 e2
    simp at e1 e2
    omega
/-- a map is its own refinement just where it leads alike -/
theorem ref_self (hR : RightG n E) (hd : Hd n to) (h : IsRef n E to out) : out = to ↔ Stab n E to := by
  constructor
  · intro e; subst e; exact h.stab hR
  · intro hs; exact h.unique (stab_ref hR hd hs)
/-! while it is split: objects 0 .. i -/
def SplitT (E : List GE) (out out' : List Int) (m : Nat) : Prop :=
  out'.length = m ∧ ∀ i, i < m → ∃ h : Nat, cl out' i = (h : Int) ∧ h ≤ i ∧ (cl out h = cl out i ∧ marksG E out (h : Nat) = marksG E out (i : Nat)) ∧ ∀ k, k < h → ¬ (cl out k = cl out i ∧ marksG E out (k : Nat) = marksG E out (i : Nat))
theorem SplitT.nil (E : List GE) (out : List Int) : SplitT E out [] 0 := ⟨rfl, fun i h => absurd h (by omega)⟩
theorem SplitT.snoc {m : Nat} (h : SplitT E out out' m) {q : Nat} (h1 : q ≤ m) (h2 : cl out q = cl out m ∧ marksG E out (q : Nat) = marksG E out (m : Nat)) (h3 : ∀ k, k < q → ¬ (cl out k = cl out m ∧ marksG E out (k : Nat) = marksG E out (m : Nat))) : SplitT E out (out' ++ [(q : Int)]) (m + 1) := by
  refine ⟨by rw [List.length_append, h.1]; rfl, fun i hi => ?_⟩
  by_cases e : i = m
  · subst e
    refine ⟨q, ?_, h1, h2, h3⟩
    rw [cl, List.getD_eq_getElem?_getD, List.getElem?_append_right (by rw [h.1]; exact Nat.le_refl _), h.1]; simp
  · obtain ⟨a, e1, e2⟩ := h.2 i (by omega)
    refine ⟨a, ?_, e2⟩
    rw [← e1, cl, cl, List.getD_eq_getElem?_getD, List.getD_eq_getElem?_getD, List.getElem?_append_left (by rw [h.1]; omega)]
end
end Go.Proofs.YtkpadjhdneiniaaDoor.St
end
