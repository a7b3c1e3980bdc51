/- The least word that tells two apart, plainly: whatever goes through pairs in the order of their words finds it. -/
import Derived.Test.YtkpadjhdneiniaaGreatDoorAu
namespace Go.Proofs.YtkpadjhdneiniaaGreatDoor.Eb
set_option linter.unusedVariables false

/-! words in their order: the shorter ones first -/
def lexlt : List Int → List Int → Prop
  | [], [] => False
  | [], _ :: _ => False
  | _ :: _, [] => False
  | a :: as, b :: bs => a < b ∨ (a = b ∧ lexlt as bs)
def SL (u v : List Int) : Prop := u.length < v.length ∨ (u.length = v.length ∧ lexlt u v)
def SLe (u v : List Int) : Prop := u = v ∨ SL u v
theorem lexlt_irr : ∀ u : List Int, ¬ lexlt u u
  | [], h => h
  | a :: as, h => h.elim (fun h => by omega) (fun h => lexlt_irr as h.2)
theorem lexlt_trans : ∀ {u v w : List Int}, lexlt u v → lexlt v w → lexlt u w
  | [], [], _, h, _ => h.elim
  | [], _ :: _, _, h, _ => h.elim
  | _ :: _, [], _, h, _ => h.elim
  | _ :: _, _ :: _, [], _, h => h.elim
  | a :: as, b :: bs, c :: cs, h, k => by
    rcases h with h | ⟨rfl, h⟩
    · rcases k with k | ⟨rfl, k⟩
      · exact .inl (by omega)
      · exact .inl h
    · rcases k with k | ⟨rfl, k⟩
      · exact .inl k
      · exact .inr ⟨rfl, lexlt_trans h k⟩
theorem lexlt_app : ∀ {u v : List Int} (s t : List Int), lexlt u v → lexlt (u ++ s) (v ++ t)
  | [], [], _, _, h => h.elim
  | [], _ :: _, _, _, h => h.elim
  | _ :: _, [], _, _, h => h.elim
  | a :: as, b :: bs, s, t, h => h.elim (fun h => .inl h) (fun h => .inr ⟨h.1, lexlt_app s t h.2⟩)
theorem lexlt_snoc : ∀ (u : List Int) {f g : Int}, f < g → lexlt (u ++ [f]) (u ++ [g])
  | [], _, _, h => .inl h
  | a :: as, _, _, h => .inr ⟨rfl, lexlt_snoc as h⟩
theorem SL.irr (u : List Int) : ¬ SL u u := fun h => h.elim (fun h => by omega) (fun h => lexlt_irr u h.2)
theorem SL.trans {u v w : List Int} (h : SL u v) (k : SL v w) : SL u w := by
  rcases h with h | ⟨e, h⟩
  · rcases k with k | ⟨e, k⟩
    · exact .inl (by omega)
    · exact .inl (by omega)
  · rcases k with k | ⟨e', k⟩
    · exact .inl (by omega)
    · exact .inr ⟨e.trans e', lexlt_trans h k⟩
theorem SLe.trans {u v w : List Int} (h : SLe u v) (k : SLe v w) : SLe u w := by
  rcases h with rfl | h
  · exact k
  · rcases k with rfl | k
    · exact .inr h
    · exact .inr (h.trans k)
theorem SLe.antisymm {u v : List Int} (h : SLe u v) (k : SLe v u) : u = v := by
  rcases h with rfl | h
  · rfl
  · rcases k with rfl | k
    · rfl
    · exact absurd (h.trans k) (SL.irr u)
theorem SL.app {u v : List Int} (h : SL u v) {s t : List Int} (hl : s.length = t.length) : SL (u ++ s) (v ++ t) := by
  rcases h with h | ⟨e, h⟩
  · exact .inl (by rw [List.length_append, List.length_append]; omega)
  · exact .inr ⟨by rw [List.length_append, List.length_append]; omega, lexlt_app s t h⟩
theorem SLe.app {u v : List Int} (h : SLe u v) (t : List Int) : SLe (u ++ t) (v ++ t) := h.elim (fun e => .inl (by rw [e])) (fun h => .inr (h.app rfl))
theorem SLe.pre (u t : List Int) : SLe u (u ++ t) := by
  cases t with
  | nil => exact .inl (by simp)
  | cons a t => exact .inr (.inl (by rw [List.length_append, List.length_cons]; omega))
theorem SL.snoc (u : List Int) {f g : Int} (h : f < g) : SL (u ++ [f]) (u ++ [g]) := .inr ⟨by simp, lexlt_snoc u h⟩

/-- Pairs by number: their words, and at which words they differ; those ahead of i have been gone through. -/
structure Gone (W : Nat → List Int) (D : Nat → List Int → Prop) (i m : Nat) : Prop where
  rise : ∀ j k, j < k → k < m → SL (W j) (W k)
  same : ∀ j, j < i → j < m → ¬ D j []
  step : ∀ j, j < i → j < m → ∀ f t, D j (f :: t) → ∃ k, k < m ∧ SLe (W k) (W j ++ [f]) ∧ D k t
theorem Gone.reach {W : Nat → List Int} {D : Nat → List Int → Prop} {i m : Nat} (h : Gone W D i m) : ∀ (t : List Int) (j : Nat), j < m → D j t → ∃ k, i ≤ k ∧ k < m ∧ SLe (W k) (W j ++ t)
  | [], j, hj, hD => by
    rcases Nat.lt_or_ge j i with hl | hl
    · exact absurd hD (h.same j hl hj)
    · exact ⟨j, hl, hj, SLe.pre _ _⟩
  | f :: t, j, hj, hD => by
    rcases Nat.lt_or_ge j i with hl | hl
    · obtain ⟨k, hk, h1, h2⟩ := h.step j hl hj f t hD
      obtain ⟨k', h3, h4, h5⟩ := h.reach t k hk h2
      refine ⟨k', h3, h4, h5.trans ?_⟩
      have := h1.app t
      rw [List.append_assoc] at this
      exact this
    · exact ⟨j, hl, hj, SLe.pre _ _⟩
/-- the least word at which two differ -/
def Least (D : List Int → Prop) (w : List Int) : Prop := D w ∧ ∀ v, D v → SLe w v
theorem Least.unique {D : List Int → Prop} {w w' : List Int} (h : Least D w) (h' : Least D w') : w = w' := (h.2 _ h'.1).antisymm (h'.2 _ h.1)
theorem Gone.least {W : Nat → List Int} {D : Nat → List Int → Prop} {i m : Nat} (h : Gone W D i m) (h0 : W 0 = []) (hW : ∀ j, j < m → ∀ t, D j t → D 0 (W j ++ t)) (hi : i < m) (hd : D i []) : Least (D 0) (W i) := by
  refine ⟨by have := hW i hi [] hd; rwa [List.append_nil] at this, fun v hv => ?_⟩
  obtain ⟨k, h1, h2, h3⟩ := h.reach v 0 (by omega) hv
  rw [h0, List.nil_append] at h3
  refine SLe.trans ?_ h3
  rcases Nat.lt_or_ge i k with hl | hl
  · exact .inr (h.rise i k hl h2)
  · obtain rfl : i = k := by omega
    exact .inl rfl
theorem Gone.none {W : Nat → List Int} {D : Nat → List Int → Prop} {m : Nat} (h : Gone W D m m) (h0 : 0 < m) : ∀ v, ¬ D 0 v := fun v hv => by
  obtain ⟨k, h1, h2, _⟩ := h.reach v 0 h0 hv
  omega
/-! what is joined -/
inductive Cl (P : Nat → Nat → Prop) : Nat → Nat → Prop
  | of {a b : Nat} : P a b → Cl P a b
  | refl (a : Nat) : Cl P a a
  | symm {a b : Nat} : Cl P a b → Cl P b a
  | trans {a b c : Nat} : Cl P a b → Cl P b c → Cl P a c
theorem Cl.eq {α : Type} {P : Nat → Nat → Prop} {L : Nat → α} (h : ∀ a b, P a b → L a = L b) {a b : Nat} (hc : Cl P a b) : L a = L b := by
  induction hc with
  | of h1 => exact h _ _ h1
  | refl a => rfl
  | symm _ ih => exact ih.symm
  | trans _ _ ih1 ih2 => exact ih1.trans ih2
/-- where two of one class differ, a pair does -/
theorem Cl.apart {α : Type} {P : Nat → Nat → Prop} {L : Nat → α} {a b : Nat} (hc : Cl P a b) (hne : L a ≠ L b) : ∃ x y, P x y ∧ L x ≠ L y := by
  apply Classical.byContradiction
  intro hn
  exact hne (hc.eq fun x y hp => Classical.byContradiction fun hxy => hn ⟨x, y, hp, hxy⟩)
theorem Cl.mono {P Q : Nat → Nat → Prop} (h : ∀ a b, P a b → Cl Q a b) {a b : Nat} (hc : Cl P a b) : Cl Q a b := by
  induction hc with
  | of h1 => exact h _ _ h1
  | refl a => exact .refl a
  | symm _ ih => exact ih.symm
  | trans _ _ ih1 ih2 => exact ih1.trans ih2
end Go.Proofs.YtkpadjhdneiniaaGreatDoor.Eb
