/- lex: each token stands at its place. -/
import Derived.Test.YtmaoadlighjkpaaLo
namespace Go.Proofs.Ytmaoadlighjkpaa.Lx
open Go.RowKit Go.Proofs.YtmaoadlighjkpaaW.PrintWords Go.Proofs.YtmaoadlighjkpaaW.PrintLast Go.Proofs.YtmaoadlighjkpaaW.PrintMore
open Go.Proofs.Ytmaoadlighjkpaa.Base Go.Proofs.Ytmaoadlighjkpaa.PLexTokens Go.Proofs.Ytmaoadlighjkpaa.Map
set_option linter.unusedVariables false

theorem placeT_bd (T : ByteArray) : ∀ n : Nat, n ≤ 20000 → 1 ≤ (placeT T n).1 ∧ (placeT T n).1 ≤ (n : Int) + 1 ∧ 1 ≤ (placeT T n).2 ∧ (placeT T n).2 ≤ (n : Int) + 1
  | 0, _ => by show (1 : Int) ≤ 1 ∧ (1 : Int) ≤ _ ∧ (1 : Int) ≤ 1 ∧ (1 : Int) ≤ _; omega
  | n + 1, h => by
    have ih := placeT_bd T n (by omega)
    have e : placeT T (n + 1) = stepP (bt T (n : Int)) (placeT T n) := rfl
    rw [e]
    generalize placeT T n = p at ih
    unfold stepP
    by_cases hb : bt T (n : Int) = 10
    · rw [if_pos hb]
      show 1 ≤ wrap64 (p.1 + 1) ∧ wrap64 (p.1 + 1) ≤ _ ∧ (1 : Int) ≤ 1 ∧ (1 : Int) ≤ _
      unfold wrap64
      omega
    · rw [if_neg hb]
      show 1 ≤ p.1 ∧ p.1 ≤ _ ∧ 1 ≤ wrap64 (p.2 + 1) ∧ wrap64 (p.2 + 1) ≤ _
      unfold wrap64
      omega
/-- a later octet's place is a later one -/
def keyP (p : Int × Int) : Int := p.1 * 100000 + p.2
theorem keyP_step (T : ByteArray) (n : Nat) (h : n < 20000) : keyP (placeT T n) < keyP (placeT T (n + 1)) := by
  have hb := placeT_bd T n (by omega)
  have e : placeT T (n + 1) = stepP (bt T (n : Int)) (placeT T n) := rfl
  rw [e]
  generalize placeT T n = p at hb
  unfold stepP keyP
  by_cases hb : bt T (n : Int) = 10
  · rw [if_pos hb]
    show p.1 * 100000 + p.2 < wrap64 (p.1 + 1) * 100000 + 1
    unfold wrap64
    omega
  · rw [if_neg hb]
    show p.1 * 100000 + p.2 < p.1 * 100000 + wrap64 (p.2 + 1)
    unfold wrap64
    omega
theorem keyP_lt (T : ByteArray) (a : Nat) : ∀ d : Nat, a + d + 1 ≤ 20000 → keyP (placeT T a) < keyP (placeT T (a + d + 1))
  | 0, h => keyP_step T a (by omega)
  | d + 1, h => Int.lt_trans (keyP_lt T a d (by omega)) (keyP_step T (a + d + 1) (by omega))
theorem place_ne (T : ByteArray) (a b : Nat) (h : a < b) (hb : b ≤ 20000) : placeT T a ≠ placeT T b := by
  intro e
  have := keyP_lt T a (b - a - 1) (by omega)
  rw [show a + (b - a - 1) + 1 = b by omega, e] at this
  exact Int.lt_irrefl _ this

/-- tokens, each at its place, from an octet on -/
inductive Placed (T : ByteArray) : Nat → List S116 → Prop
  | nil (a : Nat) : Placed T a []
  | cons (a b : Nat) (t : S116) (D : List S116) : a ≤ b → b + t.f1.size ≤ T.size → 1 ≤ t.f1.size → t.f2 = ⟨(placeT T b).1, (placeT T b).2⟩ → T.extract b (b + t.f1.size) = t.f1 → Placed T (b + t.f1.size) D → Placed T a (t :: D)
theorem Placed.low {T : ByteArray} {a a' : Nat} {D : List S116} (h : Placed T a D) (ha : a' ≤ a) : Placed T a' D := by
  cases h with
  | nil => exact .nil _
  | cons _ b t D h1 h2 h3 h4 h5 h6 => exact .cons a' b t D (by omega) h2 h3 h4 h5 h6
theorem mid_size (T : ByteArray) (a b : Nat) (h : a ≤ b) (hb : b ≤ T.size) : (T.extract a b).size = b - a := by
  rw [Lib.size_eq, Lib.extract_data, List.length_take, List.length_drop, ← Lib.size_eq]
  omega
theorem lex_placed (T : ByteArray) {S : ByteArray} {p : Int × Int} {out : List S116} {r : Out} (h : LexS S p out r) : r.2.2.2.1 = 0 → ∀ a : Nat, S = T.extract a T.size → p = placeT T a → a ≤ T.size → ∃ D, r.1 = out ++ D ∧ Placed T a D := by
  induction h with
  | done s p out hz => exact fun _ a _ _ _ => ⟨[], by simp, .nil a⟩
  | err s p out kd n e hz hS he => exact fun h => absurd h he
  | step s p out kd n r hz hS hn hL ih =>
    rintro h0 a rfl rfl ha
    have hp := hS.pos hz
    rw [ext_size T a ha] at hn
    obtain ⟨D, h1, h2⟩ := ih h0 (a + n) (ext_ext T a n (by omega)) (placeF_add T a n) (by omega)
    by_cases hk : 0 ≤ kd
    · rw [if_pos hk] at h1
      rw [ext_tok T a n (by omega)] at h1
      have hz1 := mid_size T a (a + n) (by omega) (by omega)
      have e : a + (T.extract a (a + n)).size = a + n := by omega
      refine ⟨⟨kd, T.extract a (a + n), ⟨(placeT T a).1, (placeT T a).2⟩⟩ :: D, by rw [h1, List.append_assoc]; rfl, .cons a a _ D (Nat.le_refl _) ?_ ?_ rfl ?_ ?_⟩
      · show a + (T.extract a (a + n)).size ≤ T.size
        omega
      · show 1 ≤ (T.extract a (a + n)).size
        omega
      · show T.extract a (a + (T.extract a (a + n)).size) = T.extract a (a + n)
        rw [e]
      · show Placed T (a + (T.extract a (a + n)).size) D
        rw [e]
        exact h2
    · rw [if_neg hk] at h1
      exact ⟨D, h1, h2.low (by omega)⟩
/-- what Tokens answers stands in the text -/
theorem tok_placed {s : ByteArray} (hs : s.size ≤ 400) {l : List S116} {a b c d : Int} (h : TokS s (l, a, b, 0, c, d)) : Placed s 0 l := by
  rcases h with ⟨h, _⟩ | ⟨_, h⟩
  · omega
  obtain ⟨D, hD, hP⟩ := lex_placed s h rfl 0 (ext_zero s).symm rfl (Nat.zero_le _)
  rw [List.nil_append] at hD
  obtain rfl : l = D := hD
  exact hP
/-- an error leaves no tokens -/
theorem lex_err {S : ByteArray} {p : Int × Int} {out : List S116} {r : Out} (h : LexS S p out r) : r.2.2.2.1 ≠ 0 → r.1 = [] := by
  induction h with
  | done s p out hz => exact fun h => absurd rfl h
  | err s p out kd n e hz hS he => exact fun _ => rfl
  | step s p out kd n r hz hS hn hL ih => exact ih
theorem tok_err {s : ByteArray} {l : List S116} {a b e c d : Int} (h : TokS s (l, a, b, e, c, d)) (he : e ≠ 0) : l = [] := by
  rcases h with ⟨_, h⟩ | ⟨_, h⟩
  · simp only [Prod.mk.injEq] at h
    exact h.1
  · exact lex_err h he
theorem Placed.len {T : ByteArray} {a : Nat} {D : List S116} (h : Placed T a D) : a ≤ T.size → D.length ≤ T.size - a := by
  induction h with
  | nil => exact fun _ => Nat.zero_le _
  | cons a b t D h1 h2 h3 h4 h5 h6 ih =>
    intro h
    have := ih h2
    simp only [List.length_cons]
    omega
end Go.Proofs.Ytmaoadlighjkpaa.Lx
