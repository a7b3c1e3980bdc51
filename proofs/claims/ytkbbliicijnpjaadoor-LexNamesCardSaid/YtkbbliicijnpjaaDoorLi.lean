/- lex: the reference's place is the program's. -/
import Derived.Test.YtkbbliicijnpjaaDoorLh
namespace Go.Proofs.YtkbbliicijnpjaaDoor.Lx
open Go.RowKit Go.Proofs.YtkbbliicijnpjaaDoorW.PrintWords Go.Proofs.YtkbbliicijnpjaaDoorW.PrintLast Go.Proofs.YtkbbliicijnpjaaDoorW.PrintMore
open Go.Proofs.YtkbbliicijnpjaaDoor.Base Go.Proofs.YtkbbliicijnpjaaDoor.PLexTokens Go.Proofs.YtkbbliicijnpjaaDoor.PLexNames Go.Proofs.YtkbbliicijnpjaaDoor.Map
set_option linter.unusedVariables false

theorem wrap_nat (n : Nat) (h : n ≤ 100000) : wrap64 ((n : Int) + 1) = ((n + 1 : Nat) : Int) := by unfold wrap64; omega
/-- the place of an octet of the text -/
def placeT (T : ByteArray) (a : Nat) : Int × Int := placeF T (1, 1) a
theorem place_l0 (T : ByteArray) (n : Nat) (hn : n ≤ T.size) (hT : T.size ≤ 20000) : ∀ (d j k : Nat), d + j = n → d < k → winnowerref05_Place.l0 k T (n : Int) (j : Int) (placeT T j).1 (placeT T j).2 = some (placeT T n)
  | _, _, 0, _, hk => absurd hk (Nat.not_lt_zero _)
  | 0, j, k + 1, hd, hk => by
    have : j = n := by omega
    subst this
    rw [winnowerref05_Place.l0, if_neg (by omega)]
  | d + 1, j, k + 1, hd, hk => by
    have ih := place_l0 T n hn hT d (j + 1) k (by omega) (by omega)
    rw [winnowerref05_Place.l0, if_pos (by omega), if_pos (by omega), if_pos (by omega), wrap_nat j (by omega)]
    have e : placeT T (j + 1) = stepP (bt T (j : Int)) (placeT T j) := rfl
    by_cases h : bt T (j : Int) = 10
    · rw [if_pos h]
      rw [e, stepP, if_pos h] at ih
      exact ih
    · rw [if_neg h]
      rw [e, stepP, if_neg h] at ih
      exact ih
theorem place_f (T : ByteArray) (n k : Nat) (hn : n ≤ T.size) (hT : T.size ≤ 20000) (hk : n < k) : winnowerref05_Place.f k T (n : Int) = some (placeT T n) :=
  place_l0 T n hn hT n 0 k (by omega) hk
theorem placeF_add (T : ByteArray) (a n : Nat) : placeF (T.extract a T.size) (placeT T a) n = placeT T (a + n) := by
  induction n with
  | zero => rfl
  | succ n ih =>
    show stepP (bt (T.extract a T.size) (n : Int)) (placeF (T.extract a T.size) (placeT T a) n) = stepP (bt T ((a + n : Nat) : Int)) (placeT T (a + n))
    rw [ih, bt_ext]
end Go.Proofs.YtkbbliicijnpjaaDoor.Lx
