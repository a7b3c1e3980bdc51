/- nodes: Node, and the document's Plain and Find. -/
import Derived.Test.YtkbbliicijnpjaaDoorVk
import Derived.Test.YtkbbliicijnpjaaDoorPe
namespace Go.Proofs.YtkbbliicijnpjaaDoor.Tx
open Go.RowKit Go.Proofs.YtkbbliicijnpjaaDoorW.PrintWords Go.Proofs.YtkbbliicijnpjaaDoorW.PrintLast Go.Proofs.YtkbbliicijnpjaaDoorW.PrintMore
open Go.Proofs.YtkbbliicijnpjaaDoor.Base Go.Proofs.YtkbbliicijnpjaaDoor.Map Go.Proofs.YtkbbliicijnpjaaDoor.Ca Go.Proofs.YtkbbliicijnpjaaDoor.Qu Go.Proofs.YtkbbliicijnpjaaDoor.In Go.Proofs.YtkbbliicijnpjaaDoor.Kx Go.Maps Go.Proofs.YtkbbliicijnpjaaDoor.PNodeIds
set_option linter.unusedVariables false

theorem refPlain_f (n : Nat) (k a b c : Int) : winnowerref17_Plain.f (n + 1) k a b c = some (pl k a b c) := by
  unfold winnowerref17_Plain.f pl
  by_cases h0 : k < 0
  · rw [if_pos h0, winnowerref17_Plain.j0, if_pos rfl, if_neg (by omega), if_neg (by omega), if_neg (by omega)]
  rw [if_neg h0, winnowerref17_Plain.j0]
  by_cases h4 : k > 4
  · rw [if_pos (decide_eq_true h4), if_neg (by omega), if_neg (by omega), if_neg (by omega)]
  rw [if_neg (by simpa using h4)]
  by_cases e4 : k = 4
  · subst e4; rfl
  rw [if_neg e4]
  by_cases e0 : k = 0
  · subst e0; rfl
  · rw [if_neg e0, if_neg e4, if_pos (by omega)]
def toT (s : S46) : List Int := [s.f0, s.f1, s.f2, s.f3]
theorem toT_inj {s t : S46} : toT s = toT t ↔ s = t := by
  constructor
  · intro h
    obtain ⟨a, b, c, d⟩ := s
    obtain ⟨a', b', c', d'⟩ := t
    simpa [toT] using h
  · rintro rfl; rfl
/-- where the document finds a tuple -/
def findS (tl : List (List Int)) (k a b c : Int) : Int := if okN k a b c ∧ tup k a b c ∈ tl then (place tl (tup k a b c) : Int) else -1
theorem place_eq {α : Type} [DecidableEq α] : ∀ (l : List α) (x : α) (j : Nat), l[j]? = some x → (∀ i, i < j → l[i]? ≠ some x) → place l x = j
  | [], x, j, h, _ => by simp at h
  | a :: l, x, 0, h, _ => by
    have : a = x := by simpa using h
    subst this
    unfold place
    simp
  | a :: l, x, j + 1, h, hn => by
    have h1 := place_eq l x j (by simpa using h) (fun i hi => by simpa using hn (i + 1) (by omega))
    have h0 : a ≠ x := fun e => hn 0 (by omega) (by simp [e])
    unfold place at *
    rw [List.idxOf_cons, show (a == x) = false from beq_eq_false_iff_ne.2 h0, h1]
    rfl
theorem refFind_l0 (all : List S46) (t : S46) (hl : all.length ≤ 1000) : ∀ (d j k : Nat), d + j = all.length → 2 * d + 1 < k → (∀ i, i < j → ∀ s, all[i]? = some s → s ≠ t) →
    winnowerref17_Find.l0 k all true (j : Int) t.f0 t.f1 t.f2 t.f3 = some (if toT t ∈ all.map toT then (place (all.map toT) (toT t) : Int) else -1)
  | _, _, 0, _, hk, _ => absurd hk (Nat.not_lt_zero _)
  | _, _, 1, _, hk, _ => absurd hk (by omega)
  | 0, j, k + 2, hd, hk, hn => by
    rw [winnowerref17_Find.l0, if_neg (by omega), winnowerref17_Find.j1, if_neg (by decide), if_neg]
    rw [List.mem_map]
    rintro ⟨s, hs, he⟩
    obtain ⟨i, hi⟩ := List.getElem?_of_mem hs
    have hlt := (List.getElem?_eq_some_iff.1 hi).1
    exact hn i (by omega) s hi (toT_inj.1 he)
  | d + 1, j, k + 2, hd, hk, hn => by
    have hj : j < all.length := by omega
    have hw : wrap64 ((j : Int) + 1) = ((j + 1 : Nat) : Int) := by unfold wrap64; omega
    have er : rd_T46 all (j : Int) = all[j] := by simp [rd_T46, List.getD, hj]
    rw [winnowerref17_Find.l0, if_pos (by omega), winnowerref17_Find.j1, if_pos rfl, if_pos (by omega), if_pos (by omega), er, hw]
    by_cases he : all[j] = t
    · rw [if_pos (by rw [he]; simp)]
      have hm : toT t ∈ all.map toT := List.mem_map.2 ⟨all[j], List.getElem_mem _, by rw [he]⟩
      rw [if_pos hm]
      have hp : place (all.map toT) (toT t) = j := place_eq _ _ j (by rw [List.getElem?_map, List.getElem?_eq_getElem hj, Option.map_some, he]) (fun i hi h => by
        rw [List.getElem?_map, List.getElem?_eq_getElem (by omega), Option.map_some, Option.some.injEq] at h
        exact hn i hi _ (List.getElem?_eq_getElem (by omega)) (toT_inj.1 h))
      rw [hp]
    · have hne : ¬ ((all[j].f0 == t.f0 && (all[j].f1 == t.f1 && (all[j].f2 == t.f2 && (all[j].f3 == t.f3)))) = true) := by
        intro hb
        apply he
        rw [← toT_inj]
        obtain ⟨h0, h1, h2, h3⟩ : all[j].f0 = t.f0 ∧ all[j].f1 = t.f1 ∧ all[j].f2 = t.f2 ∧ all[j].f3 = t.f3 := by simpa using hb
        simp [toT, h0, h1, h2, h3]
      rw [if_neg hne]
      exact refFind_l0 all t hl d (j + 1) k (by omega) (by omega) (fun i hi s hs => by
        by_cases h : i = j
        · subst h; rw [List.getElem?_eq_getElem hj, Option.some.injEq] at hs; rw [← hs]; exact he
        · exact hn i (by omega) s hs)
theorem refFind_f (all : List S46) (k a b c : Int) (hl : all.length ≤ 1000) : winnowerref17_Find.f (2 * all.length + 4) all k a b c = some (findS (all.map toT) k a b c) := by
  unfold winnowerref17_Find.f
  rw [refPlain_f, Option.bind_some]
  obtain ⟨r1, r2, r3, r4, r5, hpl⟩ : ∃ r1 r2 r3 r4 r5, pl k a b c = (r1, r2, r3, r4, r5) := ⟨_, _, _, _, _, rfl⟩
  unfold findS okN tup
  rw [hpl]
  cases r5 with
  | true =>
    have := refFind_l0 all ⟨r1, r2, r3, r4⟩ hl all.length 0 (2 * all.length + 4) rfl (by omega) (fun i hi => absurd hi (Nat.not_lt_zero _))
    simpa [toT] using this
  | false =>
    show winnowerref17_Find.l0 (2 * all.length + 4) all false 0 r1 r2 r3 r4 = _
    rw [winnowerref17_Find.l0]
    have e : ∀ n, winnowerref17_Find.j1 (n + 1) all false 0 false r1 r2 r3 r4 = some (-1) := fun n => by rw [winnowerref17_Find.j1]; rfl
    split <;> rw [e] <;> simp
theorem refPlain_any (k a b c : Int) (w : World) : Calls Tryd.prog 34 #[.agg #[.int .i64 k, .int .i64 a, .int .i64 b, .int .i64 c]] w fun e w' => e = .returned (.tuple #[.agg #[.int .i64 (pl k a b c).1, .int .i64 (pl k a b c).2.1, .int .i64 (pl k a b c).2.2.1, .int .i64 (pl k a b c).2.2.2.1], .bool (pl k a b c).2.2.2.2]) ∧ Below w.heap.size w w' :=
  winnowerref17_Plain.calls 1 k a b c _ _ _ _ _ w (refPlain_f 0 k a b c)
theorem refFind_any (A : Option Addr) (m : Nat) (all : List S46) (k a b c : Int) (w : World) (h : RdN w A all) (hm : all.length ≤ m) (hl : all.length ≤ 1000) :
    Calls Tryd.prog 35 #[.slice A all.length m, .agg #[.int .i64 k, .int .i64 a, .int .i64 b, .int .i64 c]] w fun e w' => e = .returned (.int .i64 (findS (all.map toT) k a b c)) ∧ Below w.heap.size w w' :=
  winnowerref17_Find.calls _ A m all k a b c _ w h.out hm (refFind_f all k a b c hl)
end Go.Proofs.YtkbbliicijnpjaaDoor.Tx
