/- Heads: what a union means; what joining a pair does to it. Plain. -/
import Derived.Test.YtmaoadlighjkpaaUa
namespace Go.Proofs.Ytmaoadlighjkpaa.Un
open Go.RowKit Go.Proofs.YtmaoadlighjkpaaW.PrintWords Go.Proofs.YtmaoadlighjkpaaW.PrintLast Go.Proofs.YtmaoadlighjkpaaW.PrintMore
open Go.Proofs.Ytmaoadlighjkpaa.Base Go.Proofs.Ytmaoadlighjkpaa.Map Go.Proofs.Ytmaoadlighjkpaa.Qu
set_option linter.unusedVariables false

/-- each number's head is the least of its class -/
structure Canon (hs : List Int) : Prop where
  at_ : ∀ i, i < hs.length → ∃ h : Nat, rd hs i = (h : Int) ∧ h ≤ i ∧ rd hs h = (h : Int)
/-- how many classes -/
def cntOf (hs : List Int) : Nat := (List.range hs.length).countP fun (i : Nat) => decide (rd hs i = (i : Int))
theorem cnt_le (hs : List Int) : cntOf hs ≤ hs.length := by
  have := List.countP_le_length (p := fun (i : Nat) => decide (rd hs i = (i : Int))) (l := List.range hs.length)
  rwa [List.length_range] at this
/-- the classes of a and b are one -/
def joinL (hs : List Int) (a b : Nat) : List Int := hs.map fun x => if x = max (rd hs a) (rd hs b) then min (rd hs a) (rd hs b) else x
theorem joinL_len (hs : List Int) (a b : Nat) : (joinL hs a b).length = hs.length := by simp [joinL]
theorem joinL_rd (hs : List Int) (a b i : Nat) (h : i < hs.length) : rd (joinL hs a b) i = if rd hs i = max (rd hs a) (rd hs b) then min (rd hs a) (rd hs b) else rd hs i := by
  rw [rd_nat _ _ (by rw [joinL_len]; exact h), rd_nat hs i h]
  simp [joinL]
theorem joinL_same (hs : List Int) (a b : Nat) (h : rd hs a = rd hs b) : joinL hs a b = hs := by
  unfold joinL
  rw [h]
  conv => rhs; rw [← List.map_id hs]
  exact List.map_congr_left (fun x _ => by
    have h1 : max (rd hs b) (rd hs b) = rd hs b := by omega
    have h2 : min (rd hs b) (rd hs b) = rd hs b := by omega
    rw [h1, h2]
    by_cases e : x = rd hs b
    · rw [if_pos e]; exact e.symm
    · rw [if_neg e]; rfl)
theorem joinL_comm (hs : List Int) (a b : Nat) : joinL hs a b = joinL hs b a := by
  unfold joinL
  rw [Int.max_comm, Int.min_comm]
theorem Canon.join {hs : List Int} (h : Canon hs) {a b : Nat} (ha : a < hs.length) (hb : b < hs.length) : Canon (joinL hs a b) := by
  by_cases hab : rd hs a = rd hs b
  · rw [joinL_same hs a b hab]; exact h
  refine ⟨fun i hi => ?_⟩
  rw [joinL_len] at hi
  obtain ⟨k, k1, k2, k3⟩ := h.at_ i hi
  obtain ⟨x, x1, x2, x3⟩ := h.at_ a ha
  obtain ⟨y, y1, y2, y3⟩ := h.at_ b hb
  rw [joinL_rd hs a b i hi, k1, x1, y1]
  rw [x1, y1] at hab
  by_cases e : (k : Int) = max (x : Int) (y : Int)
  · rw [if_pos e]
    refine ⟨min x y, by omega, by omega, ?_⟩
    rw [joinL_rd hs a b _ (by omega), x1, y1]
    have h3 : rd hs (min x y : Nat) = ((min x y : Nat) : Int) := by
      rcases Nat.le_total x y with h | h
      · rw [Nat.min_eq_left h]; exact x3
      · rw [Nat.min_eq_right h]; exact y3
    rw [h3, if_neg (by omega)]
  · rw [if_neg e]
    refine ⟨k, rfl, k2, ?_⟩
    rw [joinL_rd hs a b k (by omega), k3, x1, y1, if_neg e]
theorem countP_one (p q : Nat → Bool) (k : Nat) (hk : p k = true) (hq : q k = false) (he : ∀ i, i ≠ k → q i = p i) : ∀ N, (List.range N).countP p = (List.range N).countP q + (if k < N then 1 else 0)
  | 0 => by simp
  | N + 1 => by
    rw [List.range_succ, List.countP_append, List.countP_append, countP_one p q k hk hq he N, List.countP_singleton, List.countP_singleton]
    by_cases e : N = k
    · rw [e, hk, hq]; simp
    · rw [he N e]
      by_cases h : k < N
      · have h2 : k < N + 1 := by omega
        simp only [h, h2, if_true]; omega
      · have h2 : ¬ k < N + 1 := by omega
        simp only [h, h2, if_false]; omega
theorem countP_ext {p q : Nat → Bool} : ∀ N, (∀ i, i < N → p i = q i) → (List.range N).countP p = (List.range N).countP q
  | 0, _ => by simp
  | N + 1, h => by rw [List.range_succ, List.countP_append, List.countP_append, countP_ext N (fun i hi => h i (by omega)), List.countP_singleton, List.countP_singleton, h N (by omega)]
theorem cnt_join {hs : List Int} (h : Canon hs) {a b : Nat} (ha : a < hs.length) (hb : b < hs.length) (hab : rd hs a ≠ rd hs b) : cntOf hs = cntOf (joinL hs a b) + 1 := by
  obtain ⟨x, x1, x2, x3⟩ := h.at_ a ha
  obtain ⟨y, y1, y2, y3⟩ := h.at_ b hb
  rw [x1, y1] at hab
  have hm3 : rd hs (max x y : Nat) = ((max x y : Nat) : Int) := by
    rcases Nat.le_total x y with h | h
    · rw [Nat.max_eq_right h]; exact y3
    · rw [Nat.max_eq_left h]; exact x3
  have hmn : rd hs (min x y : Nat) = ((min x y : Nat) : Int) := by
    rcases Nat.le_total x y with h | h
    · rw [Nat.min_eq_left h]; exact x3
    · rw [Nat.min_eq_right h]; exact y3
  have hc := countP_one (fun i : Nat => decide (rd hs i = (i : Int))) (fun i : Nat => decide (rd hs i = (i : Int)) && decide (i ≠ max x y)) (max x y) (decide_eq_true hm3) (by simp) (fun i hi => by simp [hi]) hs.length
  rw [if_pos (by omega)] at hc
  unfold cntOf
  rw [hc, joinL_len]
  congr 1
  refine countP_ext _ (fun i hi => ?_)
  rw [joinL_rd hs a b i hi, x1, y1]
  obtain ⟨k, k1, k2, k3⟩ := h.at_ i hi
  rw [k1]
  by_cases e : (k : Int) = max (x : Int) (y : Int)
  · rw [if_pos e]
    have e2 : k = max x y := by omega
    have h1 : ¬ (min (x : Int) (y : Int) = (i : Int)) := fun e3 => by
      have e4 : i = min x y := by omega
      rw [e4, hmn] at k1
      omega
    rw [decide_eq_false h1]
    by_cases e3 : (k : Int) = (i : Int)
    · have : i = max x y := by omega
      simp [this]
    · rw [decide_eq_false e3]; rfl
  · rw [if_neg e]
    by_cases e3 : (k : Int) = (i : Int)
    · have : i ≠ max x y := by omega
      simp [e3, this]
    · rw [decide_eq_false e3]; rfl

/-- the heads, as the union keeps them -/
structure Heads (R : Nat → Nat) (H hs : List Int) : Prop where
  hd : ∀ i, i < hs.length → rd H (R i) = rd hs i
  inj : ∀ i j, i < hs.length → j < hs.length → rd hs i = rd hs j → R i = R j
  can : Canon hs
theorem Forest.link {U : List Int} {R d : Nat → Nat} (h : Forest U R d) {x y : Nat} (hx : x < U.length) (hy : y < U.length) (hrx : R x = x) (hry : R y = y) (hne : x ≠ y) :
    Forest (U.set y (x : Int)) (fun i => if R i = y then x else R i) (fun i => if R i = y then d i + d x + 1 else d i) := by
  refine ⟨fun i hi => ?_⟩
  rw [List.length_set] at hi ⊢
  obtain ⟨j, r1, r2, r3, r4, r5, r6, r7⟩ := h.at_ i hi
  obtain ⟨jx, s1, s2, s3, s4, s5, s6, s7⟩ := h.at_ x hx
  rw [hrx] at s5
  by_cases hiy : i = y
  · subst hiy
    have hr1 : ¬ R x = i := fun e => hne (by rw [← hrx]; exact e)
    refine ⟨x, rd_set_same U i _ hi, hx, ?_, ?_, ?_, fun e => absurd e hne, fun _ => ?_⟩
    · simp only [hry, if_true, hrx, if_neg hne]
    · simp only [hry, if_true]; exact hx
    · simp only [hry, if_true]; rw [rd_set_ne U i x _ hne]; exact s5
    · simp only [hry, if_true, hrx, if_neg hne]; omega
  · refine ⟨j, by rw [rd_set_ne U y i _ hiy]; exact r1, r2, by simp only [r3], ?_, ?_, fun e => ?_, fun e => ?_⟩
    · by_cases c : R i = y
      · simp only [c, if_true]; exact hx
      · simp only [if_neg c]; exact r4
    · by_cases c : R i = y
      · simp only [c, if_true]; rw [rd_set_ne U y x _ hne]; exact s5
      · simp only [if_neg c]; rw [rd_set_ne U y (R i) _ c]; exact r5
    · have := r6 e
      simp only [this, if_neg hiy]
    · have := r7 e
      simp only [r3]
      by_cases c : R i = y
      · simp only [c, if_true]; omega
      · simp only [if_neg c]; exact this
theorem Heads.link {R : Nat → Nat} {H hs : List Int} (h : Heads R H hs) (hH : H.length = hs.length) (hR : ∀ i, i < hs.length → R i < hs.length ∧ R (R i) = R i) {a b x y : Nat} (ha : a < hs.length) (hb : b < hs.length)
    (hxy : (x = R a ∧ y = R b) ∨ (x = R b ∧ y = R a)) (hne : x ≠ y) :
    Heads (fun i => if R i = y then x else R i) (H.set x (min (rd H x) (rd H y))) (joinL hs a b) := by
  have hxl : x < hs.length := by rcases hxy with ⟨rfl, _⟩ | ⟨rfl, _⟩; exact (hR a ha).1; exact (hR b hb).1
  have hmin : min (rd H x) (rd H y) = min (rd hs a) (rd hs b) := by
    rcases hxy with ⟨rfl, rfl⟩ | ⟨rfl, rfl⟩
    · rw [h.hd a ha, h.hd b hb]
    · rw [h.hd a ha, h.hd b hb, Int.min_comm]
  have hcl : ∀ i, i < hs.length → ((R i = x ∨ R i = y) ↔ (rd hs i = rd hs a ∨ rd hs i = rd hs b)) := fun i hi => by
    have e1 : R i = R a ↔ rd hs i = rd hs a := ⟨fun e => by rw [← h.hd i hi, ← h.hd a ha, e], fun e => h.inj i a hi ha e⟩
    have e2 : R i = R b ↔ rd hs i = rd hs b := ⟨fun e => by rw [← h.hd i hi, ← h.hd b hb, e], fun e => h.inj i b hi hb e⟩
    rcases hxy with ⟨rfl, rfl⟩ | ⟨rfl, rfl⟩
    · rw [e1, e2]
    · rw [e1, e2]; exact Or.comm
  have hval : ∀ i, i < hs.length → rd (joinL hs a b) i = if (R i = x ∨ R i = y) then min (rd hs a) (rd hs b) else rd hs i := fun i hi => by
    rw [joinL_rd hs a b i hi]
    by_cases c : R i = x ∨ R i = y
    · rw [if_pos c]
      rcases (hcl i hi).1 c with e | e <;> (rw [e]; split <;> omega)
    · rw [if_neg c]
      have h2 := (not_congr (hcl i hi)).1 c
      rw [not_or] at h2
      rw [if_neg (by omega)]
  refine ⟨fun i hi => ?_, fun i j hi hj e => ?_, h.can.join ha hb⟩
  · rw [joinL_len] at hi
    rw [hval i hi]
    by_cases c : R i = y
    · simp only [c, if_true, or_true]
      rw [rd_set_same H x _ (by omega), hmin]
    · simp only [if_neg c]
      by_cases c2 : R i = x
      · simp only [c2, true_or, if_true]
        rw [rd_set_same H x _ (by omega), hmin]
      · rw [if_neg (by rintro (e | e); exact c2 e; exact c e), rd_set_ne H x _ _ c2, h.hd i hi]
  · rw [joinL_len] at hi hj
    rw [hval i hi, hval j hj] at e
    have key : ∀ k, k < hs.length → ¬ (R k = x ∨ R k = y) → rd hs k ≠ min (rd hs a) (rd hs b) := fun k hk c e => by
      have h2 := (not_congr (hcl k hk)).1 c
      rw [not_or] at h2
      omega
    by_cases ci : R i = x ∨ R i = y
    · rw [if_pos ci] at e
      by_cases cj : R j = x ∨ R j = y
      · have : ∀ k, (R k = x ∨ R k = y) → (if R k = y then x else R k) = x := fun k hk => by
          rcases hk with e | e
          · by_cases c : R k = y
            · rw [if_pos c]
            · rw [if_neg c]; exact e
          · rw [if_pos e]
        rw [this i ci, this j cj]
      · rw [if_neg cj] at e
        exact absurd e.symm (key j hj cj)
    · rw [if_neg ci] at e
      by_cases cj : R j = x ∨ R j = y
      · rw [if_pos cj] at e
        exact absurd e (key i hi ci)
      · rw [if_neg cj] at e
        have := h.inj i j hi hj e
        simp only [this]
end Go.Proofs.Ytmaoadlighjkpaa.Un
