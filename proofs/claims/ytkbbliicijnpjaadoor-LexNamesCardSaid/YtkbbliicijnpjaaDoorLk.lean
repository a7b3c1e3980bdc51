/- lex: the reference's end answers as a step. -/
import Derived.Test.YtkbbliicijnpjaaDoorLj
namespace Go.Proofs.YtkbbliicijnpjaaDoor.Lx
open Go.RowKit Go.Proofs.YtkbbliicijnpjaaDoorW.PrintWords Go.Proofs.YtkbbliicijnpjaaDoorW.PrintLast Go.Proofs.YtkbbliicijnpjaaDoorW.PrintMore
open Go.Proofs.YtkbbliicijnpjaaDoor.Base Go.Proofs.YtkbbliicijnpjaaDoor.PLexTokens Go.Proofs.YtkbbliicijnpjaaDoor.PLexNames Go.Proofs.YtkbbliicijnpjaaDoor.Map
set_option linter.unusedVariables false

theorem toNat58 (x : UInt8) (h : ((x.toNat : Nat) : Int) = 58) : x = 58 := by
  apply UInt8.toNat_inj.1
  show x.toNat = 58
  omega
theorem pre_iff (s : ByteArray) : preB s = true ↔ 2 ≤ s.size ∧ bt s 0 = 58 ∧ bt s 1 = 58 := by
  unfold preB
  by_cases h : 2 ≤ s.size
  · rw [if_pos h, ByteArray.toList_eq, ByteArray.toList_eq, Lib.extract_data]
    have e0 := bt_at s 0 (by show 0 < s.size; omega)
    have e1 := bt_at s 1 (by show 1 < s.size; omega)
    have g0 := get_list s 0 (by omega)
    have g1 := get_list s 1 (by omega)
    have hz := Lib.size_eq s
    generalize s.data.toList = L at *
    match L, g0, g1 with
    | x :: y :: tl, g0, g1 =>
      simp only [List.getElem?_cons_zero, List.getElem?_cons_succ, Option.some.injEq] at g0 g1
      have e0' : ((x.toNat : Nat) : Int) = bt s 0 := by rw [g0]; exact e0
      have e1' : ((y.toNat : Nat) : Int) = bt s 1 := by rw [g1]; exact e1
      show (([x, y] : List UInt8) == [58, 58]) = true ↔ _
      rw [beq_iff_eq]
      constructor
      · intro hh
        simp only [List.cons.injEq, and_true] at hh
        rw [← e0', ← e1', hh.1, hh.2]
        exact ⟨h, rfl, rfl⟩
      · rintro ⟨_, h0, h1⟩
        rw [toNat58 x (by omega), toNat58 y (by omega)]
    | [_], _, g1 => simp at g1
    | [], g0, _ => simp at g0
  · rw [if_neg h]
    simp [h]
theorem sg58 : sgB 58 = false := by kernel_rfl

/-- what end answers, by the first octet's kind -/
def endB (K : Nat) (T : ByteArray) (a : Nat) (c : Int) : Option (Int × Int × Int) :=
  if c = 0 then winnowerref05_end.l0 K T (a : Int) ((a + 1 : Nat) : Int) else if c = 1 then winnowerref05_end.l1 K T (a : Int) ((a + 1 : Nat) : Int) else if c = 2 then some (((a + 1 : Nat) : Int), 2, 0) else if c = 3 then some (((a + 1 : Nat) : Int), -1, 0) else if c = 4 then winnowerref05_end.l2 K T ((a + 1 : Nat) : Int) else
  if c = 5 then (if ((a + 1 : Nat) : Int) < (T.size : Int) then (if bt T ((a + 1 : Nat) : Int) = 58 then some (((a + 2 : Nat) : Int), 2, 0) else some (((a + 1 : Nat) : Int), -1, 10)) else some (((a + 1 : Nat) : Int), -1, 10)) else some (((a + 1 : Nat) : Int), -1, 10)
theorem end_eq (T : ByteArray) (a K : Nat) (ha : a < T.size) (hT : T.size ≤ 20000) (hK : 5 ≤ K) : winnowerref05_end.f K T (a : Int) = endB K T a (kindB (bt T (a : Int))) := by
  have hw := wrap_nat a (by omega)
  have hw1 := wrap_nat (a + 1) (by omega)
  rw [winnowerref05_end.f, if_pos (show (0 : Int) ≤ (a : Int) by omega), if_pos (show (a : Int) < (T.size : Int) by omega), kind_k T (a : Int) K hK, Option.bind_some, hw, hw1, if_pos (show (0 : Int) ≤ ((a + 1 : Nat) : Int) by omega)]
  rfl
theorem endB0 (K : Nat) (T : ByteArray) (a : Nat) : endB K T a 0 = winnowerref05_end.l0 K T (a : Int) ((a + 1 : Nat) : Int) := by rw [endB, if_pos rfl]
theorem endB1 (K : Nat) (T : ByteArray) (a : Nat) : endB K T a 1 = winnowerref05_end.l1 K T (a : Int) ((a + 1 : Nat) : Int) := by rw [endB, if_neg (by decide), if_pos rfl]
theorem endB2 (K : Nat) (T : ByteArray) (a : Nat) : endB K T a 2 = some (((a + 1 : Nat) : Int), 2, 0) := by rw [endB, if_neg (by decide), if_neg (by decide), if_pos rfl]
theorem endB3 (K : Nat) (T : ByteArray) (a : Nat) : endB K T a 3 = some (((a + 1 : Nat) : Int), -1, 0) := by rw [endB, if_neg (by decide), if_neg (by decide), if_neg (by decide), if_pos rfl]
theorem endB4 (K : Nat) (T : ByteArray) (a : Nat) : endB K T a 4 = winnowerref05_end.l2 K T ((a + 1 : Nat) : Int) := by rw [endB, if_neg (by decide), if_neg (by decide), if_neg (by decide), if_neg (by decide), if_pos rfl]
theorem endB5 (K : Nat) (T : ByteArray) (a : Nat) : endB K T a 5 = if ((a + 1 : Nat) : Int) < (T.size : Int) then (if bt T ((a + 1 : Nat) : Int) = 58 then some (((a + 2 : Nat) : Int), 2, 0) else some (((a + 1 : Nat) : Int), -1, 10)) else some (((a + 1 : Nat) : Int), -1, 10) := by rw [endB, if_neg (by decide), if_neg (by decide), if_neg (by decide), if_neg (by decide), if_neg (by decide), if_pos rfl]
theorem endB6 (K : Nat) (T : ByteArray) (a : Nat) : endB K T a 6 = some (((a + 1 : Nat) : Int), -1, 10) := by rw [endB, if_neg (by decide), if_neg (by decide), if_neg (by decide), if_neg (by decide), if_neg (by decide), if_neg (by decide)]

theorem end_f (T : ByteArray) (a : Nat) (ha : a < T.size) (hT : T.size ≤ 20000) {k : Int} {n : Nat} {e : Int} (h : StepS (T.extract a T.size) k n e) (K : Nat) (hK : T.size + 10 < K) :
    ∃ z : Int, winnowerref05_end.f K T (a : Int) = some (z, if e = 10 then -1 else k, e) ∧ (e = 0 → z = ((a + n : Nat) : Int)) := by
  have b0 : bt (T.extract a T.size) 0 = bt T (a : Int) := bt_ext T a 0
  have b1 : bt (T.extract a T.size) 1 = bt T ((a + 1 : Nat) : Int) := bt_ext T a 1
  have hsz := ext_size T a (by omega)
  rw [end_eq T a K ha hT (by omega)]
  have hrun : ∀ {P : Int → Bool} {n : Nat}, Run P (T.extract a T.size) n → a + n ≤ T.size ∧ (∀ j : Nat, j < n → P (bt T ((a + j : Nat) : Int)) = true) ∧ (a + n < T.size → P (bt T ((a + n : Nat) : Int)) = false) := fun {P n} h =>
    ⟨by have := h.le; omega, fun j hj => by rw [← bt_ext]; exact h.ok j hj, fun hl => by rw [← bt_ext]; exact h.no (by omega)⟩
  cases h with
  | sp h1 =>
    rw [b0] at h1
    have hk : kindB (bt T (a : Int)) = 3 := by unfold kindB; rw [if_pos h1]
    rw [hk, endB3]
    exact ⟨_, rfl, fun _ => rfl⟩
  | rem _ h1 h2 h3 =>
    rw [b0] at h1 h2
    have hk : kindB (bt T (a : Int)) = 4 := by unfold kindB; rw [if_neg (by rw [h1]; simp), if_pos h2]
    obtain ⟨r1, r2, r3⟩ := hrun h3
    have hp := h3.pos (by omega) (by rw [b0, h2]; rfl)
    rw [hk, endB4]
    exact ⟨_, (end_l2 T a n hT r1 r2 r3 (n - 1) 1 K (by omega) (by omega)), fun _ => rfl⟩
  | word _ h1 h2 h3 h4 h5 =>
    rw [b0] at h1 h2 h3
    have hk : kindB (bt T (a : Int)) = 0 := by unfold kindB; rw [if_neg (by rw [h1]; simp), if_neg h2, if_pos h3]
    obtain ⟨r1, r2, r3⟩ := hrun h4
    have hp := h4.pos (by omega) (by rw [b0, h3]; rfl)
    rw [hk, endB0, end_l0 T a n hT r1 r2 r3 (n - 1) 1 K (by omega) (by omega), if_neg (by omega)]
    exact ⟨_, rfl, fun _ => rfl⟩
  | wordBig _ h1 h2 h3 h4 h5 =>
    rw [b0] at h1 h2 h3
    have hk : kindB (bt T (a : Int)) = 0 := by unfold kindB; rw [if_neg (by rw [h1]; simp), if_neg h2, if_pos h3]
    obtain ⟨r1, r2, r3⟩ := hrun h4
    have hp := h4.pos (by omega) (by rw [b0, h3]; rfl)
    rw [hk, endB0, end_l0 T a n hT r1 r2 r3 (n - 1) 1 K (by omega) (by omega), if_pos h5]
    exact ⟨_, rfl, fun h => absurd h (by decide)⟩
  | num _ h1 h2 h3 h4 h5 h6 =>
    rw [b0] at h1 h2 h3 h4
    have hk : kindB (bt T (a : Int)) = 1 := by unfold kindB; rw [if_neg (by rw [h1]; simp), if_neg h2, if_neg (by rw [h3]; simp), if_pos h4]
    obtain ⟨r1, r2, r3⟩ := hrun h5
    have hp := h5.pos (by omega) (by rw [b0]; exact h4)
    rw [hk, endB1, end_l1 T a n hT r1 r2 r3 (n - 1) 1 K (by omega) (by omega), if_neg (by omega)]
    exact ⟨_, rfl, fun _ => rfl⟩
  | numBig _ h1 h2 h3 h4 h5 h6 =>
    rw [b0] at h1 h2 h3 h4
    have hk : kindB (bt T (a : Int)) = 1 := by unfold kindB; rw [if_neg (by rw [h1]; simp), if_neg h2, if_neg (by rw [h3]; simp), if_pos h4]
    obtain ⟨r1, r2, r3⟩ := hrun h5
    have hp := h5.pos (by omega) (by rw [b0]; exact h4)
    rw [hk, endB1, end_l1 T a n hT r1 r2 r3 (n - 1) 1 K (by omega) (by omega), if_pos h6]
    exact ⟨_, rfl, fun h => absurd h (by decide)⟩
  | two h1 h2 h3 h4 h5 =>
    obtain ⟨p1, p2, p3⟩ := (pre_iff _).1 h5
    rw [b0] at h1 h2 h3 h4 p2
    rw [b1] at p3
    have hk : kindB (bt T (a : Int)) = 5 := by unfold kindB; rw [if_neg (by rw [h1]; simp), if_neg h2, if_neg (by rw [h3]; simp), if_neg (by rw [h4]; simp), if_neg (by rw [p2, sg58]; simp), if_pos p2]
    rw [hk, endB5, if_pos (by omega), if_pos p3]
    exact ⟨_, rfl, fun _ => rfl⟩
  | sign h1 h2 h3 h4 h5 h6 =>
    rw [b0] at h1 h2 h3 h4 h6
    have hk : kindB (bt T (a : Int)) = 2 := by unfold kindB; rw [if_neg (by rw [h1]; simp), if_neg h2, if_neg (by rw [h3]; simp), if_neg (by rw [h4]; simp), if_pos h6]
    rw [hk, endB2]
    exact ⟨_, rfl, fun _ => rfl⟩
  | bad h1 h2 h3 h4 h5 h6 =>
    rw [b0] at h1 h2 h3 h4 h6
    by_cases h58 : bt T (a : Int) = 58
    · have hk : kindB (bt T (a : Int)) = 5 := by unfold kindB; rw [if_neg (by rw [h1]; simp), if_neg h2, if_neg (by rw [h3]; simp), if_neg (by rw [h4]; simp), if_neg (by rw [h6]; simp), if_pos h58]
      have hn : a + 1 < T.size → bt T ((a + 1 : Nat) : Int) ≠ 58 := fun hl h9 => by
        have := (pre_iff (T.extract a T.size)).2 ⟨by omega, by rw [b0]; exact h58, by rw [b1]; exact h9⟩
        rw [h5] at this
        cases this
      rw [hk, endB5]
      by_cases hl : a + 1 < T.size
      · rw [if_pos (by omega), if_neg (hn hl)]
        exact ⟨_, rfl, fun h => absurd h (by decide)⟩
      · rw [if_neg (by omega)]
        exact ⟨_, rfl, fun h => absurd h (by decide)⟩
    · have hk : kindB (bt T (a : Int)) = 6 := by unfold kindB; rw [if_neg (by rw [h1]; simp), if_neg h2, if_neg (by rw [h3]; simp), if_neg (by rw [h4]; simp), if_neg (by rw [h6]; simp), if_neg h58]
      rw [hk, endB6]
      exact ⟨_, rfl, fun h => absurd h (by decide)⟩
end Go.Proofs.YtkbbliicijnpjaaDoor.Lx
