/- lex: the reference's end is the program's step. -/
import Derived.Test.YtkbbliicijnpjaaDoorLi
namespace Go.Proofs.YtkbbliicijnpjaaDoor.Lx
open Go.RowKit Go.Proofs.YtkbbliicijnpjaaDoorW.PrintWords Go.Proofs.YtkbbliicijnpjaaDoorW.PrintLast Go.Proofs.YtkbbliicijnpjaaDoorW.PrintMore
open Go.Proofs.YtkbbliicijnpjaaDoor.Base Go.Proofs.YtkbbliicijnpjaaDoor.PLexTokens Go.Proofs.YtkbbliicijnpjaaDoor.PLexNames Go.Proofs.YtkbbliicijnpjaaDoor.Map
set_option linter.unusedVariables false

/-- more fuel, the same kind -/
theorem kind_more (s : ByteArray) (i : Int) : ∀ m, winnowerref05_Kind.f (5 + m) (bt s i) = some (kindB (bt s i))
  | 0 => kind_f s i
  | m + 1 => winnowerref05_Kind.mono _ _ _ (kind_more s i m)
theorem kind_k (s : ByteArray) (i : Int) (k : Nat) (hk : 5 ≤ k) : winnowerref05_Kind.f k (bt s i) = some (kindB (bt s i)) := by
  obtain ⟨m, rfl⟩ := Nat.exists_eq_add_of_le hk
  exact kind_more s i m
/-- a letter or a digit, by its kind -/
theorem kind_tab : (List.range 256).all (fun c => (decide (kindB (c : Int) ≤ 1) == (letB (c : Int) || digB (c : Int))) && (decide (kindB (c : Int) = 1) == digB (c : Int)) && (decide (kindB (c : Int) = 0) == letB (c : Int))) = true := by kernel_rfl
theorem kind_is (s : ByteArray) (i : Int) : decide (kindB (bt s i) ≤ 1) = (letB (bt s i) || digB (bt s i)) ∧ decide (kindB (bt s i) = 1) = digB (bt s i) ∧ decide (kindB (bt s i) = 0) = letB (bt s i) := by
  have h := bt_range s i
  have := List.all_eq_true.1 kind_tab (bt s i).toNat (List.mem_range.2 (by omega))
  rw [Int.toNat_of_nonneg h.1] at this
  simp only [Bool.and_eq_true] at this
  exact ⟨eq_of_beq this.1.1, eq_of_beq this.1.2, eq_of_beq this.2⟩

theorem end_l0 (T : ByteArray) (a n : Nat) (hT : T.size ≤ 20000) (hn : a + n ≤ T.size) (hok : ∀ j : Nat, j < n → (letB (bt T ((a + j : Nat) : Int)) || digB (bt T ((a + j : Nat) : Int))) = true) (hno : a + n < T.size → (letB (bt T ((a + n : Nat) : Int)) || digB (bt T ((a + n : Nat) : Int))) = false) :
    ∀ (d j k : Nat), d + j = n → d + 5 < k → winnowerref05_end.l0 k T (a : Int) ((a + j : Nat) : Int) = some (((a + n : Nat) : Int), 0, if 32 < n then 13 else 0)
  | _, _, 0, _, hk => absurd hk (Nat.not_lt_zero _)
  | 0, j, k + 1, hd, hk => by
    have : j = n := by omega
    subst this
    have hw : wrap64 (((a + j : Nat) : Int) - (a : Int)) = (j : Int) := by unfold wrap64; omega
    rw [winnowerref05_end.l0]
    by_cases h : a + j < T.size
    · rw [if_pos (by omega), if_pos (by omega), kind_k _ _ _ (by omega), Option.bind_some, if_neg (by have h1 := (kind_is T ((a + j : Nat) : Int)).1; rw [hno h] at h1; exact of_decide_eq_false h1), hw]
      split <;> split <;> first | rfl | omega
    · rw [if_neg (by omega), hw]
      split <;> split <;> first | rfl | omega
  | d + 1, j, k + 1, hd, hk => by
    have ih := end_l0 T a n hT hn hok hno d (j + 1) k (by omega) (by omega)
    rw [winnowerref05_end.l0, if_pos (by omega), if_pos (by omega), kind_k _ _ _ (by omega), Option.bind_some, if_pos (by have h1 := (kind_is T ((a + j : Nat) : Int)).1; rw [hok j (by omega)] at h1; exact of_decide_eq_true h1), wrap_nat (a + j) (by omega)]
    exact ih
theorem end_l1 (T : ByteArray) (a n : Nat) (hT : T.size ≤ 20000) (hn : a + n ≤ T.size) (hok : ∀ j : Nat, j < n → digB (bt T ((a + j : Nat) : Int)) = true) (hno : a + n < T.size → digB (bt T ((a + n : Nat) : Int)) = false) :
    ∀ (d j k : Nat), d + j = n → d + 5 < k → winnowerref05_end.l1 k T (a : Int) ((a + j : Nat) : Int) = some (((a + n : Nat) : Int), 1, if 3 < n then 13 else 0)
  | _, _, 0, _, hk => absurd hk (Nat.not_lt_zero _)
  | 0, j, k + 1, hd, hk => by
    have : j = n := by omega
    subst this
    have hw : wrap64 (((a + j : Nat) : Int) - (a : Int)) = (j : Int) := by unfold wrap64; omega
    rw [winnowerref05_end.l1]
    by_cases h : a + j < T.size
    · rw [if_pos (by omega), if_pos (by omega), kind_k _ _ _ (by omega), Option.bind_some, if_neg (by have h1 := (kind_is T ((a + j : Nat) : Int)).2.1; rw [hno h] at h1; exact of_decide_eq_false h1), hw]
      split <;> split <;> first | rfl | omega
    · rw [if_neg (by omega), hw]
      split <;> split <;> first | rfl | omega
  | d + 1, j, k + 1, hd, hk => by
    have ih := end_l1 T a n hT hn hok hno d (j + 1) k (by omega) (by omega)
    rw [winnowerref05_end.l1, if_pos (by omega), if_pos (by omega), kind_k _ _ _ (by omega), Option.bind_some, if_pos (by have h1 := (kind_is T ((a + j : Nat) : Int)).2.1; rw [hok j (by omega)] at h1; exact of_decide_eq_true h1), wrap_nat (a + j) (by omega)]
    exact ih
theorem end_l2 (T : ByteArray) (a n : Nat) (hT : T.size ≤ 20000) (hn : a + n ≤ T.size) (hok : ∀ j : Nat, j < n → (bt T ((a + j : Nat) : Int) != 10) = true) (hno : a + n < T.size → (bt T ((a + n : Nat) : Int) != 10) = false) :
    ∀ (d j k : Nat), d + j = n → d < k → winnowerref05_end.l2 k T ((a + j : Nat) : Int) = some (((a + n : Nat) : Int), -1, 0)
  | _, _, 0, _, hk => absurd hk (Nat.not_lt_zero _)
  | 0, j, k + 1, hd, hk => by
    have : j = n := by omega
    subst this
    rw [winnowerref05_end.l2]
    by_cases h : a + j < T.size
    · rw [if_pos (by omega), if_pos (by omega), if_pos (by simpa using hno h)]
    · rw [if_neg (by omega)]
  | d + 1, j, k + 1, hd, hk => by
    have ih := end_l2 T a n hT hn hok hno d (j + 1) k (by omega) (by omega)
    rw [winnowerref05_end.l2, if_pos (by omega), if_pos (by omega), if_neg (by simpa using hok j (by omega)), wrap_nat (a + j) (by omega)]
    exact ih
end Go.Proofs.YtkbbliicijnpjaaDoor.Lx
