/- lex: what comes out is the reference's. -/
import Derived.Test.YtkbbliicijnpjaaDoorLk
namespace Go.Proofs.YtkbbliicijnpjaaDoor.Lx
open Go.RowKit Go.Proofs.YtkbbliicijnpjaaDoorW.PrintWords Go.Proofs.YtkbbliicijnpjaaDoorW.PrintLast Go.Proofs.YtkbbliicijnpjaaDoorW.PrintMore
open Go.Proofs.YtkbbliicijnpjaaDoor.Base Go.Proofs.YtkbbliicijnpjaaDoor.PLexTokens Go.Proofs.YtkbbliicijnpjaaDoor.PLexNames Go.Proofs.YtkbbliicijnpjaaDoor.Map
set_option linter.unusedVariables false

theorem ba_ext {a b : ByteArray} (h : a.data.toList = b.data.toList) : a = b := by
  cases a; cases b
  simp only [ByteArray.mk.injEq]
  exact Array.toList_inj.1 h
theorem ext_ext (T : ByteArray) (a n : Nat) (h : a + n ≤ T.size) : (T.extract a T.size).extract n (T.extract a T.size).size = T.extract (a + n) T.size := by
  apply ba_ext
  rw [ext_size T a (by omega)]
  simp only [Lib.extract_data]
  rw [List.drop_take, List.take_take, List.drop_drop]
  congr 1
  omega
theorem ext_tok (T : ByteArray) (a n : Nat) (h : a + n ≤ T.size) : (T.extract a T.size).extract 0 n = T.extract a (a + n) := by
  apply ba_ext
  simp only [Lib.extract_data]
  rw [List.drop_zero, List.take_take]
  congr 1
  omega
theorem ext_zero (T : ByteArray) : T.extract 0 T.size = T := by
  apply ba_ext
  simp only [Lib.extract_data]
  rw [List.drop_zero, List.take_of_length_le]
  rw [← Lib.size_eq]
  omega

theorem len_if {c : Prop} [Decidable c] (out : List S33) (t : S33) (m : Nat) (h : out.length + 1 ≤ m) : (if c then out ++ [t] else out).length ≤ m := by
  by_cases hc : c
  · rw [if_pos hc, List.length_append]; simpa using h
  · rw [if_neg hc]; omega
theorem lex_l0 (T : ByteArray) (hT : T.size ≤ 20000) {S : ByteArray} {p : Int × Int} {out : List S33} {r : Out} (h : LexS S p out r) :
    ∀ a : Nat, S = T.extract a T.size → p = placeT T a → a ≤ T.size → out.length ≤ a → ∀ k, 2 * T.size - a + 12 < k → winnowerref05_Tokens.l0 k T out (a : Int) = some r := by
  induction h with
  | done s p out hz =>
    rintro a rfl rfl ha ho k hk
    obtain ⟨k, rfl⟩ : ∃ k', k = k' + 1 := ⟨k - 1, by omega⟩
    rw [ext_size T a ha] at hz
    have e : a = T.size := by omega
    subst e
    rw [winnowerref05_Tokens.l0, if_neg (by omega), place_f T T.size k (Nat.le_refl _) hT (by omega), Option.bind_some]
  | err s p out kd n e hz hS he =>
    rintro a rfl rfl ha ho k hk
    obtain ⟨k, rfl⟩ : ∃ k', k = k' + 1 := ⟨k - 1, by omega⟩
    rw [ext_size T a ha] at hz
    obtain ⟨z, hz1, _⟩ := end_f T a (by omega) hT hS k (by omega)
    rw [winnowerref05_Tokens.l0, if_pos (by omega), hz1, Option.bind_some, if_neg he, place_f T a k ha hT (by omega), Option.bind_some]
  | step s p out kd n r hz hS hn hL ih =>
    rintro a rfl rfl ha ho k hk
    obtain ⟨k, rfl⟩ : ∃ k', k = k' + 1 := ⟨k - 1, by omega⟩
    have hp := hS.pos hz
    rw [ext_size T a ha] at hz hn
    obtain ⟨z, hz1, hz2⟩ := end_f T a (by omega) hT hS k (by omega)
    have hz3 := hz2 rfl
    subst hz3
    have ih1 := ih (a + n) (ext_ext T a n (by omega)) (placeF_add T a n) (by omega) (len_if _ _ _ (by omega)) k (by omega)
    rw [winnowerref05_Tokens.l0, if_pos (by omega), hz1, Option.bind_some, if_pos rfl]
    by_cases hk0 : 0 ≤ kd
    · rw [if_pos hk0] at ih1
      rw [ext_tok T a n (by omega)] at ih1
      have e : (if (0 : Int) = 10 then (-1 : Int) else kd) = kd := if_neg (by decide)
      simp only [e]
      rw [if_pos hk0, if_pos (by omega), if_pos (by omega), if_pos (by omega), place_f T a k ha hT (by omega), Option.bind_some, if_pos (by omega)]
      exact ih1
    · rw [if_neg hk0] at ih1
      have e : (if (0 : Int) = 10 then (-1 : Int) else kd) = kd := if_neg (by decide)
      simp only [e]
      rw [if_neg hk0]
      exact ih1
/-- the reference answers as the program -/
theorem tok_ref {s : ByteArray} {r : Out} (h : TokS s r) (k : Nat) (hk : 2 * s.size + 12 < k) : winnowerref05_Tokens.f k s = some r := by
  rcases h with ⟨h1, rfl⟩ | ⟨h1, h2⟩
  · rw [winnowerref05_Tokens.f, if_pos (by omega)]
  · rw [winnowerref05_Tokens.f, if_neg (by omega)]
    exact lex_l0 s h1 h2 0 (ext_zero s).symm rfl (Nat.zero_le _) (Nat.zero_le _) k (by omega)
/-- one answer a text -/
theorem tok_one {s : ByteArray} {r r' : Out} (h : TokS s r) (h' : TokS s r') : r = r' :=
  Option.some.inj ((tok_ref h _ (Nat.lt_succ_self _)).symm.trans (tok_ref h' _ (Nat.lt_succ_self _)))
end Go.Proofs.YtkbbliicijnpjaaDoor.Lx
