/- A drawn region whose loads are held till its stores begin: a condition S on the world that must hold while the operations of m come up; behind them the region goes on without it. Over any program. -/
import Derived.Test.YtmaoadlighjkpaaBase
import Derived.Deep.RegionHeld3
namespace Go.Proofs.Ytmaoadlighjkpaa.Rc
open Go
set_option linter.unusedVariables false

section
variable {P : Program} {ops : Array Oper} {Q : Exit → Act → World → Prop} {md : Region.Mode} {S : World → Prop} {m : Nat}

/-- every operation of D waits for number i, or for another one of D -/
def waits (md : Region.Mode) (ops : Array Oper) (D : List Nat) (i : Nat) : Bool := D.all fun d => match ops[d]? with
  | none => true
  | some o => o.after.any fun e => Region.binds md e && (e.on == i || D.contains e.on)
def shutD (D : List Nat) (listed : Array Bool) : Bool := D.all fun d => !listed.getD d true

theorem not_D {listed : Array Bool} {D : List Nat} {i : Nat} (hw : waits md ops D i = true) (hs : shutD D listed = true) (hi : listed.getD i true = false) {j : Nat} (hj : j ∈ Region.ready md ops listed) : j ∉ D := fun hjD => by
  obtain ⟨hun, o, ho, hall⟩ := mem_ready.1 hj
  simp only [waits, List.all_eq_true] at hw
  have h1 := hw j hjD
  simp only [ho] at h1
  obtain ⟨k, hk, h3⟩ := Array.any_eq_true.1 h1
  have he := Array.getElem_mem hk
  generalize o.after[k] = e at *
  simp only [Bool.and_eq_true, Bool.or_eq_true, beq_iff_eq] at h3
  have h4 := hall e he h3.1
  have h6 : listed.getD e.on true = false := by
    rcases h3.2 with h5 | h5
    · rw [h5]; exact hi
    · simp only [shutD, List.all_eq_true] at hs
      have := hs e.on (by simpa using h5)
      simpa using this
  rcases Nat.lt_or_ge e.on listed.size with h' | h'
  · simp [h'] at h4 h6; rw [h6] at h4; cases h4
  · simp [Array.getElem?_eq_none h'] at h4
theorem shut_set {listed : Array Bool} {D : List Nat} (hs : shutD D listed = true) {j : Nat} (hj : j ∉ D) : shutD D (listed.setIfInBounds j true) = true := by
  simp only [shutD, List.all_eq_true] at hs ⊢
  intro k hk
  have hjk : j ≠ k := fun e => hj (by rw [e]; exact hk)
  rw [getD_set_ne true hjk]; exact hs k hk
theorem shut_at {listed : Array Bool} {D : List Nat} (hs : shutD D listed = true) {k : Nat} (hk : k ∈ D) : listed.getD k true = false := by
  simp only [shutD, List.all_eq_true] at hs
  simpa using hs k hk

def wpAnyC (P : Program) (md : Region.Mode) (ops : Array Oper) (Q : Exit → Act → World → Prop) (S : World → Prop) (m : Nat) : Nat → Array Bool → Act → World → Prop
  | 0, listed, a, w => Region.ready md ops listed = [] ∧ Q .normal a w
  | fuel + 1, listed, a, w =>
    (listed.getD m true = true → wpAny P md ops Q (fuel + 1) listed a w) ∧
    (listed.getD m true = false → (Region.ready md ops listed = [] → Q .normal a w) ∧
      ∀ i ∈ Region.ready md ops listed, wpOp P ops Q i (fun a' w' => S w' ∧ wpAnyC P md ops Q S m fuel (listed.setIfInBounds i true) a' w') a w)

theorem wpAny_of_C : ∀ (fuel : Nat) (listed : Array Bool) (a : Act) (w : World), wpAnyC P md ops Q S m fuel listed a w → wpAny P md ops Q fuel listed a w
  | 0, _, _, _, h => h
  | fuel + 1, listed, a, w, h => by
    cases hA : listed.getD m true with
    | true => exact h.1 hA
    | false => exact ⟨(h.2 hA).1, fun i hi => wpOp_mono (fun a' w' h' => wpAny_of_C fuel _ a' w' h'.2) ((h.2 hA).2 i hi)⟩
theorem wpAnyC_cut {fuel : Nat} {listed : Array Bool} {a : Act} {w : World} (hA : listed.getD m true = true) (h : wpAny P md ops Q fuel listed a w) : wpAnyC P md ops Q S m fuel listed a w := by
  cases fuel with
  | zero => exact h
  | succ n => exact ⟨fun _ => h, fun h2 => absurd (h2.symm.trans hA) Bool.false_ne_true⟩

theorem wpAnyC_first {i : Nat} {oi : Oper} {v : Value} (hi : ops[i]? = some oi) {D : List Nat} (hmD : m ∈ D) (hw : waits md ops D i = true) (hsel : ∀ (j : Nat) (o : Oper) cs b, ops[j]? = some o → o.op ≠ .select cs b)
    (hQ : ∀ c a w, Q (.panic c) (a.put oi.dst v) w → Q (.panic c) a w) :
    ∀ (fuel : Nat) (listed : Array Bool) (a : Act) (w : World),
      (∀ j oj, ops[j]? = some oj → j ≠ i → listed.getD j true = false → (∀ e ∈ oj.after, Region.binds md e = true → e.on ≠ i) → oi.apart ops oj = true) →
      i ∈ Region.ready md ops listed → shutD D listed = true → YieldsIf P ops S oi v a → S w →
      wpAnyC P md ops Q S m fuel (listed.setIfInBounds i true) (a.put oi.dst v) w → wpAnyC P md ops Q S m (fuel + 1) listed a w := by
  intro fuel
  induction fuel with
  | zero =>
    intro listed a w _ hr hs hy hS H
    have hA : listed.getD m true = false := shut_at hs hmD
    refine ⟨fun h => absurd (hA.symm.trans h) Bool.false_ne_true, fun _ => ⟨fun h => (by rw [h] at hr; cases hr), fun j hj => ?_⟩⟩
    by_cases hji : j = i
    · subst hji; exact hy.wpOp hi hS ⟨hS, H⟩
    · have := ready_mono hj hji
      rw [H.1] at this
      cases this
  | succ fuel ih =>
    intro listed a w hfree hr hs hy hS H
    have hA : listed.getD m true = false := shut_at hs hmD
    refine ⟨fun h => absurd (hA.symm.trans h) Bool.false_ne_true, fun _ => ⟨fun h => (by rw [h] at hr; cases hr), fun j hj => ?_⟩⟩
    by_cases hji : j = i
    · subst hji; exact hy.wpOp hi hS ⟨hS, H⟩
    · have hjD : j ∉ D := not_D hw hs (mem_ready.1 hr).1 hj
      have him : i ≠ m := fun e => by
        have h1 := not_D hw hs (mem_ready.1 hr).1 hr
        exact h1 (e ▸ hmD)
      obtain ⟨hjun, oj, hoj, hall⟩ := mem_ready.1 hj
      have hA2 : (listed.setIfInBounds i true).getD m true = false := by rw [getD_set_ne true him]; exact hA
      have h1 := (H.2 hA2).2 j (ready_mono hj hji)
      have hnot : ∀ e ∈ oj.after, Region.binds md e = true → e.on ≠ i := fun e he hb heq => by
        have h1 := hall e he hb
        have h0 := (mem_ready.1 hr).1
        rw [heq] at h1
        rcases Nat.lt_or_ge i listed.size with h' | h'
        · simp [h'] at h0 h1; rw [h0] at h1; cases h1
        · simp [Array.getElem?_eq_none h'] at h1
      have h2 := wpOp_putIf hoj (hfree j oj hoj hji hjun hnot) (fun cs b => hsel i oi cs b hi) (fun cs b => hsel j oj cs b hoj) hQ hy h1
      have hfree' : ∀ k ok, ops[k]? = some ok → k ≠ i → (listed.setIfInBounds j true).getD k true = false →
          (∀ e ∈ ok.after, Region.binds md e = true → e.on ≠ i) → oi.apart ops ok = true := fun k ok hk hki hun hno => by
        refine hfree k ok hk hki ?_ hno
        by_cases hjk : j = k
        · subst hjk; exact hjun
        · rw [getD_set_ne true hjk] at hun; exact hun
      refine wpOp_mono (fun a' w' h3 => ⟨h3.2.1, ih (listed.setIfInBounds j true) a' w' hfree' (ready_mono hr (Ne.symm hji)) (shut_set hs hjD) h3.1 h3.2.1 ?_⟩) h2
      rw [Array.setIfInBounds_comm _ _ hji]
      exact h3.2.2

/-- take number i first -/
theorem wpAnyC_take {i : Nat} {oi : Oper} {v : Value} {fuel : Nat} {listed : Array Bool} {a : Act} {w : World} (hi : ops[i]? = some oi) (D : List Nat) (hmD : D.contains m = true) (hw : waits md ops D i = true)
    (hs : Region.noSelect ops = true) (hf : Region.free md ops listed i = true) (hr : (Region.ready md ops listed).contains i = true) (hso : shutD D listed = true)
    (hQ : ∀ c a w, Q (.panic c) (a.put oi.dst v) w → Q (.panic c) a w) (hy : YieldsIf P ops S oi v a) (hS : S w)
    (h : wpAnyC P md ops Q S m fuel (listed.setIfInBounds i true) (a.put oi.dst v) w) : wpAnyC P md ops Q S m (fuel + 1) listed a w :=
  wpAnyC_first (D := D) hi (by simpa using hmD) hw (Region.noSelect_spec hs) hQ fuel listed a w (Region.free_spec hi hf) (by simpa using hr) hso hy hS h

def AllC (P : Program) (md : Region.Mode) (ops : Array Oper) (Q : Exit → Act → World → Prop) (S : World → Prop) (m : Nat) (fuel : Nat) (listed : Array Bool) (a : Act) (w : World) (rs : List Nat) : Prop :=
  ∀ i ∈ rs, wpOp P ops Q i (fun a' w' => S w' ∧ wpAnyC P md ops Q S m fuel (listed.setIfInBounds i true) a' w') a w
theorem AllC.nil {fuel : Nat} {listed : Array Bool} {a : Act} {w : World} : AllC P md ops Q S m fuel listed a w [] := fun _ h => by cases h
theorem AllC.cons {fuel : Nat} {listed : Array Bool} {a : Act} {w : World} {i : Nat} {o : Oper} {rs : List Nat} (ho : ops[i]? = some o)
    (h : ∀ K' : Act → World → Prop, Shut (∀ a w, S w → (S w → wpAnyC P md ops Q S m fuel (listed.setIfInBounds i true) a w) → K' a w) → if Region.wanted o (yielded ops a.tmps) = true then Oper.wp P o a w K' Q else K' (a.put o.dst undef) w)
    (hs : AllC P md ops Q S m fuel listed a w rs) : AllC P md ops Q S m fuel listed a w (i :: rs) := fun j hj => by
  rcases List.mem_cons.1 hj with rfl | hj
  · exact wpOp_step ho (fun K' hK => h K' (fun a w hS hW => hK a w ⟨hS, hW hS⟩))
  · exact hs j hj
theorem wpAnyC_ready {rs : List Nat} {fuel : Nat} {listed : Array Bool} {a : Act} {w : World} (hA : listed.getD m true = false) (hr : Region.ready md ops listed = rs) (hne : rs ≠ [])
    (h : AllC P md ops Q S m fuel listed a w rs) : wpAnyC P md ops Q S m (fuel + 1) listed a w :=
  ⟨fun h2 => absurd (hA.symm.trans h2) Bool.false_ne_true, fun _ => ⟨fun h0 => absurd (hr ▸ h0) hne, hr ▸ h⟩⟩
end
end Go.Proofs.Ytmaoadlighjkpaa.Rc
