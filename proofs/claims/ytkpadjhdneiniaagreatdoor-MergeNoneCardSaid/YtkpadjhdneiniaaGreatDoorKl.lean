/- The text of a class and marks tells them: plainly. -/
import Derived.Lib.ItoaNum
namespace Go.Proofs.YtkpadjhdneiniaaGreatDoor.Ky
set_option linter.unusedVariables false
open Go

theorem dec_small {u : Nat} (h : u < 10) : Lib.decDigits u = [UInt8.ofNat (48 + u)] := Lib.decDigits_one h
theorem dec_big {u : Nat} (h : ¬ u < 10) : Lib.decDigits u = Lib.decDigits (u / 10) ++ [UInt8.ofNat (48 + u % 10)] := by rw [Lib.decDigits, dif_neg h]
theorem dec_ne (u : Nat) : Lib.decDigits u ≠ [] := by
  by_cases h : u < 10
  · rw [dec_small h]; simp
  · rw [dec_big h]; simp
theorem chr_inj {a b : Nat} (ha : a < 10) (hb : b < 10) (h : UInt8.ofNat (48 + a) = UInt8.ofNat (48 + b)) : a = b := by
  have h2 := congrArg UInt8.toNat h
  rw [UInt8.toNat_ofNat', UInt8.toNat_ofNat'] at h2
  omega
theorem dec_chr : ∀ (u : Nat) (c : UInt8), c ∈ Lib.decDigits u → 48 ≤ c.toNat ∧ c.toNat ≤ 57 := by
  intro u
  induction u using Nat.strongRecOn with
  | _ u ih =>
    intro c hc
    by_cases h : u < 10
    · rw [dec_small h, List.mem_singleton] at hc
      subst hc
      rw [UInt8.toNat_ofNat']; omega
    · rw [dec_big h, List.mem_append, List.mem_singleton] at hc
      rcases hc with hc | rfl
      · exact ih (u / 10) (by omega) c hc
      · rw [UInt8.toNat_ofNat']; omega
theorem dec_inj : ∀ (u v : Nat), Lib.decDigits u = Lib.decDigits v → u = v := by
  intro u
  induction u using Nat.strongRecOn with
  | _ u ih =>
    intro v h
    by_cases hu : u < 10
    · by_cases hv : v < 10
      · rw [dec_small hu, dec_small hv] at h
        exact chr_inj hu hv (List.cons.inj h).1
      · rw [dec_small hu, dec_big hv] at h
        have h2 := congrArg List.length h
        have h3 := List.length_pos_iff.2 (dec_ne (v / 10))
        rw [List.length_append] at h2
        simp only [List.length_singleton] at h2
        omega
    · by_cases hv : v < 10
      · rw [dec_small hv, dec_big hu] at h
        have h2 := congrArg List.length h
        have h3 := List.length_pos_iff.2 (dec_ne (u / 10))
        rw [List.length_append] at h2
        simp only [List.length_singleton] at h2
        omega
      · rw [dec_big hu, dec_big hv] at h
        obtain ⟨h1, h2⟩ := List.append_inj' h rfl
        have e1 := ih (u / 10) (by omega) (v / 10) h1
        have e2 := chr_inj (Nat.mod_lt _ (by decide)) (Nat.mod_lt _ (by decide)) (List.cons.inj h2).1
        omega
theorem itoa_chr (n : Int) (c : UInt8) (h : c ∈ Lib.itoa n) : c.toNat = 45 ∨ (48 ≤ c.toNat ∧ c.toNat ≤ 57) := by
  unfold Lib.itoa at h
  split at h
  · rcases List.mem_cons.1 h with rfl | h
    · exact .inl rfl
    · exact .inr (dec_chr _ _ h)
  · exact .inr (dec_chr _ _ h)
theorem itoa_inj {m n : Int} (h : Lib.itoa m = Lib.itoa n) : m = n := by
  have hh : ∀ u v : Nat, (45 : UInt8) :: Lib.decDigits u ≠ Lib.decDigits v := fun u v e => by
    have := dec_chr v 45 (by rw [← e]; simp)
    exact absurd this.1 (by decide)
  unfold Lib.itoa at h
  split at h
  · split at h
    · have := dec_inj _ _ (List.cons.inj h).2; omega
    · exact absurd h (hh _ _)
  · split at h
    · exact absurd h.symm (hh _ _)
    · have := dec_inj _ _ h; omega
/-- what stands ahead of a sign that it does not hold -/
theorem cut_inj {α : Type} {s : α} : ∀ {a b x y : List α}, s ∉ a → s ∉ b → a ++ s :: x = b ++ s :: y → a = b ∧ x = y
  | [], [], _, _, _, _, h => ⟨rfl, (List.cons.inj h).2⟩
  | [], b :: bs, _, _, _, hb, h => absurd (by rw [(List.cons.inj h).1]; simp) hb
  | a :: as, [], _, _, ha, _, h => absurd (by rw [← (List.cons.inj h).1]; simp) ha
  | a :: as, b :: bs, _, _, ha, hb, h => by
    obtain ⟨h1, h2⟩ := List.cons.inj h
    obtain ⟨h3, h4⟩ := cut_inj (fun h => ha (List.mem_cons_of_mem _ h)) (fun h => hb (List.mem_cons_of_mem _ h)) h2
    exact ⟨by rw [h1, h3], h4⟩
theorem no32 (n : Int) : (32 : UInt8) ∉ Lib.itoa n := fun h => by rcases itoa_chr n _ h with h | h <;> revert h <;> decide
theorem no58 (n : Int) : (58 : UInt8) ∉ Lib.itoa n := fun h => by rcases itoa_chr n _ h with h | h <;> revert h <;> decide
/-- one mark -/
def markL (m : Int × Int) : List UInt8 := [32] ++ Lib.itoa m.1 ++ [58] ++ Lib.itoa m.2
/-- marks, and what stands behind a number -/
def tailL (l : List (Int × Int)) : List UInt8 := l.flatMap markL
def keyL (c : Int) (l : List (Int × Int)) : List UInt8 := Lib.itoa c ++ tailL l
theorem tail_cons (m : Int × Int) (l : List (Int × Int)) : tailL (m :: l) = 32 :: (Lib.itoa m.1 ++ 58 :: (Lib.itoa m.2 ++ tailL l)) := by simp [tailL, markL]
theorem num_tail : ∀ {a b : Int} {l l' : List (Int × Int)}, Lib.itoa a ++ tailL l = Lib.itoa b ++ tailL l' → a = b ∧ l = l'
  | a, b, [], [], h => ⟨itoa_inj (by simpa [tailL] using h), rfl⟩
  | a, b, [], m :: l', h => by
    have e : tailL [] = [] := rfl
    rw [e, List.append_nil, tail_cons] at h
    exact absurd (by rw [h]; simp) (no32 a)
  | a, b, m :: l, [], h => by
    have e : tailL [] = [] := rfl
    rw [e, List.append_nil, tail_cons] at h
    exact absurd (by rw [← h]; simp) (no32 b)
  | a, b, m :: l, m' :: l', h => by
    rw [tail_cons, tail_cons] at h
    obtain ⟨h1, h2⟩ := cut_inj (no32 a) (no32 b) h
    obtain ⟨h3, h4⟩ := cut_inj (no58 _) (no58 _) h2
    obtain ⟨h5, h6⟩ := num_tail h4
    exact ⟨itoa_inj h1, by rw [Prod.ext (itoa_inj h3) h5, h6]⟩
theorem keyL_inj {c c' : Int} {l l' : List (Int × Int)} (h : keyL c l = keyL c' l') : c = c' ∧ l = l' := num_tail h
theorem keyL_snoc (c : Int) (l : List (Int × Int)) (m : Int × Int) : keyL c (l ++ [m]) = keyL c l ++ markL m := by simp [keyL, tailL]
end Go.Proofs.YtkpadjhdneiniaaGreatDoor.Ky
