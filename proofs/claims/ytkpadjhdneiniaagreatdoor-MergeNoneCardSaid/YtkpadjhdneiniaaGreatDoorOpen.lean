/- What came in, opened by its type: a reading of a value gives the kind's own cells. And the frame of a row, once. -/
import Derived.Test.YtkpadjhdneiniaaGreatDoorBase
import Derived.Test.YtkpadjhdneiniaaGreatDoorRows
import Derived.ProofKit
import Derived.OpenShut
import Derived.ShutString
import Derived.ChangeOld
import Derived.SizedLaws
import Derived.Lib.SmallJoins
namespace Go.Proofs.YtkpadjhdneiniaaGreatDoor.Open
open Go.ChangeShapes Go.WideShapes Go.ChangeAt Go.RowKit Go.Joins Go.Deep Go.Proofs.YtkpadjhdneiniaaGreatDoorW.PrintWords
set_option linter.unusedVariables false

/-- Whatever reads as a value of type t has the cells of the kind d. -/
def Opens {α : Type} (P : Program) (d : Kd α) (ok : α → Prop) (t : TypeId) : Prop :=
  ∀ (H : Type) (enc : TypeId × Value → H) (w : World) (base : Nat) (spare : Nat → Bool) (held : Bool) (fuel : Nat) (cs : List Value) (x : DataW H × List MemPlace),
    DataW.trod enc P w base spare held fuel t cs = some x → ∃ a, d.K w a cs ∧ ok a

theorem opens_string {P : Program} {t : TypeId} (ht : P.underlying t = some .string) : Opens P Kd.string (fun s => s.size ≤ maxLen) t := by
  intro H enc w base spare held fuel cs x h
  obtain ⟨s, rfl, _, hs⟩ := DataW.trod_string ht h
  exact ⟨s, rfl, hs⟩

theorem list_choose {α : Type} {p : Nat → α → Prop} : ∀ (n : Nat), (∀ i, i < n → ∃ a, p i a) → ∃ l : List α, l.length = n ∧ ∀ i a, l[i]? = some a → p i a
  | 0, _ => ⟨[], rfl, fun i a h => by simp at h⟩
  | n + 1, h => by
    obtain ⟨l, hl, hp⟩ := list_choose n (fun i hi => h i (by omega))
    obtain ⟨a, ha⟩ := h n (by omega)
    refine ⟨l ++ [a], by simp [hl], fun i b hb => ?_⟩
    by_cases hi : i < n
    · rw [List.getElem?_append_left (by omega)] at hb; exact hp i b hb
    · rw [List.getElem?_append_right (by omega)] at hb
      have : i = n := by
        by_cases h2 : i - l.length = 0
        · omega
        · have : ([a] : List α)[i - l.length]? = none := by simp; omega
          rw [this] at hb; cases hb
      subst this
      simp [hl] at hb
      subst hb
      exact ha

theorem mapM_get {α β : Type} {f : α → Option β} : ∀ {l : List α} {r : List β}, l.mapM f = some r → r.length = l.length ∧ ∀ (i : Nat) (u : β), r[i]? = some u → ∃ a, l[i]? = some a ∧ f a = some u := by
  intro l r h
  have hl := mapM_some_length h
  refine ⟨hl, fun i u hu => ?_⟩
  have hi : i < l.length := by
    have := (List.getElem?_eq_some_iff.1 hu).1
    omega
  have := mapM_some_get h i l[i] (by simp [hi])
  exact ⟨l[i], by simp [hi], by rw [this]; exact hu⟩

theorem cells_of {w : World} {base : Nat} {a : Addr} {n : Nat} {cs : List Value} (h : w.cells? base a n = some cs) : cs.length = n ∧ ∀ (i : Nat) (u : Value), cs[i]? = some u → w.cell? (a.add i) = some u := by
  unfold World.cells? at h
  split at h
  · obtain ⟨hl, hg⟩ := mapM_get h
    refine ⟨by simpa using hl, fun i u hu => ?_⟩
    obtain ⟨j, hj, hf⟩ := hg i u hu
    have hi := (List.getElem?_eq_some_iff.1 hj).1
    rw [List.length_range] at hi
    rw [List.getElem?_range hi] at hj
    cases hj
    exact hf
  · cases h

theorem add_add (a : Addr) (i j : Nat) : (a.add i).add j = a.add (i + j) := by
  unfold Addr.add
  by_cases h1 : i = 0
  · subst h1; simp
  · by_cases h2 : j = 0
    · subst h2; simp
    · simp [h1, h2]; try omega

theorem opens_slice {α : Type} {P : Program} {d : Kd α} {ok : α → Prop} {t e : TypeId} (ht : P.underlying t = some (.slice e)) (hc : P.cellsOf e = d.sz) (he : Opens P d ok e) :
    Opens P (Kd.slice e d) (fun l => ∀ x ∈ l, ok x) t := by
  intro H enc w base spare held fuel cs x h
  rcases DataW.trod_slice ht h with ⟨rfl, _⟩ | ⟨a, len, cap, elems, rest, n, _, rfl, _, _, hl, hm, hlen, hel, _⟩
  · exact ⟨[], ⟨none, 0, rfl, Nat.le_refl _, Kd.C_nil d w⟩, fun x hx => by cases hx⟩
  · have hstep : ∀ i, i < len → ∃ b, (∃ c, c.length = d.sz ∧ d.K w b c ∧ ∀ (j : Nat) (u : Value), c[j]? = some u → w.cell? (a.add (i * d.sz + j)) = some u) ∧ ok b := by
      intro i hi
      have h1 := hel i hi
      have h2 : i < elems.length := by omega
      rw [List.getElem?_eq_getElem h2] at h1
      obtain ⟨c, hc1, hc2⟩ := Option.bind_eq_some_iff.1 h1
      obtain ⟨hcl, hcc⟩ := cells_of hc1
      obtain ⟨b, hb, hok⟩ := he H enc w base spare held n c _ hc2
      refine ⟨b, ⟨c, by rw [hcl, hc], hb, fun j u hu => ?_⟩, hok⟩
      have := hcc j u hu
      rw [add_add, hc] at this
      exact this
    obtain ⟨l, hl2, hp⟩ := list_choose len hstep
    refine ⟨l, ⟨some a, cap, by rw [hl2], by omega, hl2 ▸ rfl, ?_, fun _ => ⟨a, rfl, fun j p hj => (hp j p hj).1⟩⟩, fun x hx => ?_⟩
    · simp only [maxLen] at hm; omega
    · obtain ⟨i, hi⟩ := List.getElem?_of_mem hx
      exact (hp i x hi).2

/-- two in line: a struct of two fields of one cell each -/
theorem opens_two {α β : Type} {P : Program} {d0 : Kd α} {d1 : Kd β} {ok0 : α → Prop} {ok1 : β → Prop} {t : TypeId} {f0 f1 : Field} (hs : P.underlying t = some (.struct #[f0, f1])) (hone : oneCellFields P #[f0, f1] = true) (hC : P.cellsOf t = 2)
    (h0 : Opens P d0 ok0 f0.type) (h1 : Opens P d1 ok1 f1.type) : Opens P (Kd.pair d0 d1) (fun x => ok0 x.1 ∧ ok1 x.2) t := by
  intro H enc w base spare held fuel cs x h
  obtain ⟨y0, y1, n, hx, hl, g0, g1⟩ := trod_struct2 hs h
  obtain ⟨o0, k0⟩ := hone_of hone 0 f0 rfl
  obtain ⟨o1, k1⟩ := hone_of hone 1 f1 rfl
  match cs, hl.trans hC with
  | [c0, c1], _ =>
    have g0' : DataW.trod enc P w base spare held n f0.type [c0] = some y0 := by simpa [o0, k0] using g0
    have g1' : DataW.trod enc P w base spare held n f1.type [c1] = some y1 := by simpa [o1, k1] using g1
    obtain ⟨a0, ha0, hk0⟩ := h0 H enc w base spare held n _ _ g0'
    obtain ⟨a1, ha1, hk1⟩ := h1 H enc w base spare held n _ _ g1'
    exact ⟨(a0, a1), ⟨[c0], [c1], rfl, ha0, ha1⟩, hk0, hk1⟩

/-- a struct that came in by value -/
theorem open_st {H : Type} {enc : TypeId × Value → H} {α : Type} {P : Program} {d : Kd α} {ok : α → Prop} {t : TypeId} {fs : Array Field} {w : World} {r : Reach} {b0 base : Nat} {spare : Nat → Bool} {held : Bool} {v : Value} {y : DataW H} {p : List MemPlace}
    (hu : P.underlying t = some (.struct fs)) (ho : Opens P d ok t) (hv : Value.okWide P w r b0 t v) (h : DataW.Trod enc P w base spare held t v y p) :
    ∃ (x : α) (cs : Array Value), v = .agg cs ∧ d.K w x cs.toList ∧ ok x := by
  obtain ⟨cs, rfl, _⟩ := okWide_struct hu hv
  obtain ⟨fuel, hf⟩ := h
  obtain ⟨x, hK, hok⟩ := ho H enc w base spare held fuel _ _ hf
  exact ⟨x, cs, rfl, hK, hok⟩
theorem trod_lt {H : Type} {enc : TypeId × Value → H} {P : Program} {t : TypeId} {w : World} {base : Nat} {spare : Nat → Bool} {held : Bool} {v : Value} {y : DataW H} {p : List MemPlace} (h : DataW.Trod enc P w base spare held t v y p) : ∀ x ∈ p, x.block < w.heap.size := by
  obtain ⟨m, hm⟩ := h; exact DataW.trod_lt m _ _ _ hm
theorem own : ownKnob Tryz.prog.godebug = none := by kernel_rfl
theorem laidOut : laidOutB Tryz.prog = true := by kernel_rfl
end Go.Proofs.YtkpadjhdneiniaaGreatDoor.Open
