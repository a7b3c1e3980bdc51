/- Rx, Ua, Ub, Uc, Ud, Ue, Uf -/
import Derived.Test.YtkpadjhdneiniaaGreatDoorBase
import Derived.Deep.RegionHeld3
import Derived.Test.YtkpadjhdneiniaaGreatDoorMap
import Derived.Test.YtkpadjhdneiniaaGreatDoorGa
import Derived.BigRegion
import Derived.Deep.RegionHeld
import Derived.BigQuiet
/- Rx: A drawn region whose loads are held till its stores begin: a condition S on the world that must hold while the operations of m come up; behind them the region goes on without it. Over any program. -/
section
namespace Go.Proofs.YtkpadjhdneiniaaGreatDoor.Rc
open Go
set_option linter.unusedVariables false

section
variable {P : Program} {ops : Array Oper} {Q : Exit → Act → World → Prop} {md : Region.Mode} {S : World → Prop} {m : Nat}

/-- every operation of D waits for number i, or for another one of D -/
def waits (md : Region.Mode) (ops : Array Oper) (D : List Nat) (i : Nat) : Bool := D.all fun d => match ops[d]? with
  | none => true
  | some o => o.after.any fun e => Region.binds md e && (e.on == i || D.contains e.on)
def shutD (D : List Nat) (listed : Array Bool) : Bool := D.all fun d => !listed.getD d true

theorem not_D {listed : Array Bool} {D : List Nat} {i : Nat} (hw : waits md ops D i = true) (hs : shutD D listed = true) (hi : listed.getD i true = false) {j : Nat} (hj : j ∈ Region.ready md ops listed) : j ∉ D := fun hjD => by
  obtain ⟨hun, o, ho, hall⟩ := mem_ready.1 hj
  simp only [waits, List.all_eq_true] at hw
  have h1 := hw j hjD
  simp only [ho] at h1
  obtain ⟨k, hk, h3⟩ := Array.any_eq_true.1 h1
  have he := Array.getElem_mem hk
  generalize o.after[k] = e at *
  simp only [Bool.and_eq_true, Bool.or_eq_true, beq_iff_eq] at h3
  have h4 := hall e he h3.1
  have h6 : listed.getD e.on true = false := by
    rcases h3.2 with h5 | h5
    · rw [h5]; exact hi
    · simp only [shutD, List.all_eq_true] at hs
      have := hs e.on (by simpa using h5)
      simpa using this
  rcases Nat.lt_or_ge e.on listed.size with h' | h'
  · simp [h'] at h4 h6; rw [h6] at h4; cases h4
  · simp [Array.getElem?_eq_none h'] at h4
theorem shut_set {listed : Array Bool} {D : List Nat} (hs : shutD D listed = true) {j : Nat} (hj : j ∉ D) : shutD D (listed.setIfInBounds j true) = true := by
  simp only [shutD, List.all_eq_true] at hs ⊢
  intro k hk
  have hjk : j ≠ k := fun e => hj (by rw [e]; exact hk)
  rw [getD_set_ne true hjk]; exact hs k hk
theorem shut_at {listed : Array Bool} {D : List Nat} (hs : shutD D listed = true) {k : Nat} (hk : k ∈ D) : listed.getD k true = false := by
  simp only [shutD, List.all_eq_true] at hs
  simpa using hs k hk

def wpAnyC (P : Program) (md : Region.Mode) (ops : Array Oper) (Q : Exit → Act → World → Prop) (S : World → Prop) (m : Nat) : Nat → Array Bool → Act → World → Prop
  | 0, listed, a, w => Region.ready md ops listed = [] ∧ Q .normal a w
  | fuel + 1, listed, a, w =>
    (listed.getD m true = true → wpAny P md ops Q (fuel + 1) listed a w) ∧
    (listed.getD m true = false → (Region.ready md ops listed = [] → Q .normal a w) ∧
      ∀ i ∈ Region.ready md ops listed, wpOp P ops Q i (fun a' w' => S w' ∧ wpAnyC P md ops Q S m fuel (listed.setIfInBounds i true) a' w') a w)

theorem wpAny_of_C : ∀ (fuel : Nat) (listed : Array Bool) (a : Act) (w : World), wpAnyC P md ops Q S m fuel listed a w → wpAny P md ops Q fuel listed a w
  | 0, _, _, _, h => h
  | fuel + 1, listed, a, w, h => by
    cases hA : listed.getD m true with
    | true => exact h.1 hA
    | false => exact ⟨(h.2 hA).1, fun i hi => wpOp_mono (fun a' w' h' => wpAny_of_C fuel _ a' w' h'.2) ((h.2 hA).2 i hi)⟩
theorem wpAnyC_cut {fuel : Nat} {listed : Array Bool} {a : Act} {w : World} (hA : listed.getD m true = true) (h : wpAny P md ops Q fuel listed a w) : wpAnyC P md ops Q S m fuel listed a w := by
  cases fuel with
  | zero => exact h
  | succ n => exact ⟨fun _ => h, fun h2 => absurd (h2.symm.trans hA) Bool.false_ne_true⟩

theorem wpAnyC_first {i : Nat} {oi : Oper} {v : Value} (hi : ops[i]? = some oi) {D : List Nat} (hmD : m ∈ D) (hw : waits md ops D i = true) (hsel : ∀ (j : Nat) (o : Oper) cs b, ops[j]? = some o → o.op ≠ .select cs b)
    (hQ : ∀ c a w, Q (.panic c) (a.put oi.dst v) w → Q (.panic c) a w) :
    ∀ (fuel : Nat) (listed : Array Bool) (a : Act) (w : World),
      (∀ j oj, ops[j]? = some oj → j ≠ i → listed.getD j true = false → (∀ e ∈ oj.after, Region.binds md e = true → e.on ≠ i) → oi.apart ops oj = true) →
      i ∈ Region.ready md ops listed → shutD D listed = true → YieldsIf P ops S oi v a → S w →
      wpAnyC P md ops Q S m fuel (listed.setIfInBounds i true) (a.put oi.dst v) w → wpAnyC P md ops Q S m (fuel + 1) listed a w := by
  intro fuel
  induction fuel with
  | zero =>
    intro listed a w _ hr hs hy hS H
    have hA : listed.getD m true = false := shut_at hs hmD
    refine ⟨fun h => absurd (hA.symm.trans h) Bool.false_ne_true, fun _ => ⟨fun h => (by rw [h] at hr; cases hr), fun j hj => ?_⟩⟩
    by_cases hji : j = i
    · subst hji; exact hy.wpOp hi hS ⟨hS, H⟩
    · have := ready_mono hj hji
      rw [H.1] at this
      cases this
  | succ fuel ih =>
    intro listed a w hfree hr hs hy hS H
    have hA : listed.getD m true = false := shut_at hs hmD
    refine ⟨fun h => absurd (hA.symm.trans h) Bool.false_ne_true, fun _ => ⟨fun h => (by rw [h] at hr; cases hr), fun j hj => ?_⟩⟩
    by_cases hji : j = i
    · subst hji; exact hy.wpOp hi hS ⟨hS, H⟩
    · have hjD : j ∉ D := not_D hw hs (mem_ready.1 hr).1 hj
      have him : i ≠ m := fun e => by
        have h1 := not_D hw hs (mem_ready.1 hr).1 hr
        exact h1 (e ▸ hmD)
      obtain ⟨hjun, oj, hoj, hall⟩ := mem_ready.1 hj
      have hA2 : (listed.setIfInBounds i true).getD m true = false := by rw [getD_set_ne true him]; exact hA
      have h1 := (H.2 hA2).2 j (ready_mono hj hji)
      have hnot : ∀ e ∈ oj.after, Region.binds md e = true → e.on ≠ i := fun e he hb heq => by
        have h1 := hall e he hb
        have h0 := (mem_ready.1 hr).1
        rw [heq] at h1
        rcases Nat.lt_or_ge i listed.size with h' | h'
        · simp [h'] at h0 h1; rw [h0] at h1; cases h1
        · simp [Array.getElem?_eq_none h'] at h1
      have h2 := wpOp_putIf hoj (hfree j oj hoj hji hjun hnot) (fun cs b => hsel i oi cs b hi) (fun cs b => hsel j oj cs b hoj) hQ hy h1
      have hfree' : ∀ k ok, ops[k]? = some ok → k ≠ i → (listed.setIfInBounds j true).getD k true = false →
          (∀ e ∈ ok.after, Region.binds md e = true → e.on ≠ i) → oi.apart ops ok = true := fun k ok hk hki hun hno => by
        refine hfree k ok hk hki ?_ hno
        by_cases hjk : j = k
        · subst hjk; exact hjun
        · rw [getD_set_ne true hjk] at hun; exact hun
      refine wpOp_mono (fun a' w' h3 => ⟨h3.2.1, ih (listed.setIfInBounds j true) a' w' hfree' (ready_mono hr (Ne.symm hji)) (shut_set hs hjD) h3.1 h3.2.1 ?_⟩) h2
      rw [Array.setIfInBounds_comm _ _ hji]
      exact h3.2.2

/-- take number i first -/
theorem wpAnyC_take {i : Nat} {oi : Oper} {v : Value} {fuel : Nat} {listed : Array Bool} {a : Act} {w : World} (hi : ops[i]? = some oi) (D : List Nat) (hmD : D.contains m = true) (hw : waits md ops D i = true)
    (hs : Region.noSelect ops = true) (hf : Region.free md ops listed i = true) (hr : (Region.ready md ops listed).contains i = true) (hso : shutD D listed = true)
    (hQ : ∀ c a w, Q (.panic c) (a.put oi.dst v) w → Q (.panic c) a w) (hy : YieldsIf P ops S oi v a) (hS : S w)
    (h : wpAnyC P md ops Q S m fuel (listed.setIfInBounds i true) (a.put oi.dst v) w) : wpAnyC P md ops Q S m (fuel + 1) listed a w :=
  wpAnyC_first (D := D) hi (by simpa using hmD) hw (Region.noSelect_spec hs) hQ fuel listed a w (Region.free_spec hi hf) (by simpa using hr) hso hy hS h

def AllC (P : Program) (md : Region.Mode) (ops : Array Oper) (Q : Exit → Act → World → Prop) (S : World → Prop) (m : Nat) (fuel : Nat) (listed : Array Bool) (a : Act) (w : World) (rs : List Nat) : Prop :=
  ∀ i ∈ rs, wpOp P ops Q i (fun a' w' => S w' ∧ wpAnyC P md ops Q S m fuel (listed.setIfInBounds i true) a' w') a w
theorem AllC.nil {fuel : Nat} {listed : Array Bool} {a : Act} {w : World} : AllC P md ops Q S m fuel listed a w [] := fun _ h => by cases h
theorem AllC.cons {fuel : Nat} {listed : Array Bool} {a : Act} {w : World} {i : Nat} {o : Oper} {rs : List Nat} (ho : ops[i]? = some o)
    (h : ∀ K' : Act → World → Prop, Shut (∀ a w, S w → (S w → wpAnyC P md ops Q S m fuel (listed.setIfInBounds i true) a w) → K' a w) → if Region.wanted o (yielded ops a.tmps) = true then Oper.wp P o a w K' Q else K' (a.put o.dst undef) w)
    (hs : AllC P md ops Q S m fuel listed a w rs) : AllC P md ops Q S m fuel listed a w (i :: rs) := fun j hj => by
  rcases List.mem_cons.1 hj with rfl | hj
  · exact wpOp_step ho (fun K' hK => h K' (fun a w hS hW => hK a w ⟨hS, hW hS⟩))
  · exact hs j hj
theorem wpAnyC_ready {rs : List Nat} {fuel : Nat} {listed : Array Bool} {a : Act} {w : World} (hA : listed.getD m true = false) (hr : Region.ready md ops listed = rs) (hne : rs ≠ [])
    (h : AllC P md ops Q S m fuel listed a w rs) : wpAnyC P md ops Q S m (fuel + 1) listed a w :=
  ⟨fun h2 => absurd (hA.symm.trans h2) Bool.false_ne_true, fun _ => ⟨fun h0 => absurd (hr ▸ h0) hne, hr ▸ h⟩⟩
end
end Go.Proofs.YtkpadjhdneiniaaGreatDoor.Rc
end

/- Ua: union.Union: what it holds; there, Count, root. -/
section
namespace Go.Proofs.YtkpadjhdneiniaaGreatDoor.Un
open Go.RowKit Go.Proofs.YtkpadjhdneiniaaGreatDoorW.PrintWords Go.Proofs.YtkpadjhdneiniaaGreatDoorW.PrintLast Go.Proofs.YtkpadjhdneiniaaGreatDoorW.PrintMore
open Go.Proofs.YtkpadjhdneiniaaGreatDoor.Base Go.Proofs.YtkpadjhdneiniaaGreatDoor.Map Go.Proofs.YtkpadjhdneiniaaGreatDoor.Ow
set_option linter.unusedVariables false

/-- a row of whole numbers in a block of its own -/
abbrev Row (w : World) (v : Value) (l : List Int) : Prop := Kd.R (Kd.int .i64) 3 w 0 (fun k => v.ownBlock = some k) v l

/-- The union in block p: who is above whom (U), sizes (S), heads (H), how many classes (c). F: its blocks. -/
structure UO (w : World) (F : Nat → Prop) (p : Nat) (vU vS vH : Value) (U S H : List Int) (c : Int) : Prop where
  blk : w.heap[p]? = some (.cells #[vU, vS, vH, .int .i64 c] 134 (0, 0))
  u : Row w vU U
  s : Row w vS S
  h : Row w vH H
  dU : ∀ k, vU.ownBlock = some k → vS.ownBlock ≠ some k ∧ vH.ownBlock ≠ some k ∧ F k
  dS : ∀ k, vS.ownBlock = some k → vH.ownBlock ≠ some k ∧ F k
  dH : ∀ k, vH.ownBlock = some k → F k
  pF : F p
  lS : S.length = U.length
  lH : H.length = U.length

theorem rd_nat (l : List Int) (i : Nat) (h : i < l.length) : rd l i = l[i] := by simp [rd, h]
theorem rd_set_same (l : List Int) (i : Nat) (x : Int) (h : i < l.length) : rd (l.set i x) i = x := by simp [rd, h]
theorem rd_set_ne (l : List Int) (i j : Nat) (x : Int) (h : j ≠ i) : rd (l.set i x) j = rd l j := by
  unfold rd
  simp only [Int.toNat_natCast, List.getD_eq_getElem?_getD]
  rw [List.getElem?_set_ne (Ne.symm h)]

section
variable {w w1 : World} {F F' : Nat → Prop} {p : Nat} {vU vS vH v : Value} {U S H l : List Int} {c : Int}
theorem Row.slice (h : Row w v l) (hl : 0 < l.length) : ∃ g cap, v = .slice (some ⟨g, 0, none⟩) l.length cap := by
  obtain ⟨g, cap, he, _⟩ := Kd.R_form h hl
  exact ⟨g, cap, he⟩
theorem Row.cell {g n cap : Nat} (h : Row w (.slice (some ⟨g, 0, none⟩) n cap) l) (i : Nat) (hi : i < l.length) : w.cell? ⟨g, i, none⟩ = some (.int .i64 (rd l i)) ∧ w.frozen? ⟨g, i, none⟩ = false := by
  have hn : n = l.length := (Kd.R_reads' h).1
  subst hn
  have := Kd.R_cell (0 : Int) h (i : Int) (by omega) (by omega)
  exact this
theorem Row.put {g n cap : Nat} (h : Row w (.slice (some ⟨g, 0, none⟩) n cap) l) (i : Nat) (x : Int) : Row (w.setCell ⟨g, i, none⟩ (.int .i64 x)) (.slice (some ⟨g, 0, none⟩) n cap) (l.set i x) := by
  have hn : n = l.length := (Kd.R_reads' h).1
  subst hn
  exact (Kd.R_put h (i : Int) x).1
theorem Row.far (h : Row w v l) {g : Nat} (hg : v.ownBlock ≠ some g) (i : Nat) (x : Value) : Row (w.setCell ⟨g, i, none⟩ x) v l :=
  Kd.R_far h (p := ⟨g, i, none⟩) (fun k hk e => hg (hk.trans (by rw [show k = g from e]))) x
theorem Row.blk (h : Row w v l) {k : Nat} (hk : v.ownBlock = some k) : ∃ cells, w.heap[k]? = some (.cells cells 3 (0, 0)) := by
  obtain ⟨inner, ho⟩ := Kd.R_own h
  exact own_typed ho k hk
theorem UO.ne (h : UO w F p vU vS vH U S H c) (hr : Row w v l) : v.ownBlock ≠ some p := fun e => by
  obtain ⟨cells, hc⟩ := hr.blk e
  rw [h.blk] at hc; cases hc
theorem blk_set_far {w : World} {b g i : Nat} {o : Obj} (h : w.heap[b]? = some o) (hn : b ≠ g) (x : Value) : (w.setCell ⟨g, i, none⟩ x).heap[b]? = some o := (Below.heap_setCell w ⟨g, i, none⟩ x b hn).trans h
theorem UO.setU {g n cap : Nat} (h : UO w F p (.slice (some ⟨g, 0, none⟩) n cap) vS vH U S H c) (i : Nat) (x : Int) : UO (w.setCell ⟨g, i, none⟩ (.int .i64 x)) F p (.slice (some ⟨g, 0, none⟩) n cap) vS vH (U.set i x) S H c := by
  have ho : (Value.slice (some ⟨g, 0, none⟩) n cap).ownBlock = some g := by simp [Value.ownBlock]
  have hd := h.dU g ho
  exact ⟨blk_set_far h.blk (fun e => h.ne h.u (ho.trans (by rw [e]))) _, h.u.put i x, h.s.far hd.1 i _, h.h.far hd.2.1 i _, h.dU, h.dS, h.dH, h.pF, by rw [List.length_set]; exact h.lS, by rw [List.length_set]; exact h.lH⟩
theorem UO.setS {g n cap : Nat} (h : UO w F p vU (.slice (some ⟨g, 0, none⟩) n cap) vH U S H c) (i : Nat) (x : Int) : UO (w.setCell ⟨g, i, none⟩ (.int .i64 x)) F p vU (.slice (some ⟨g, 0, none⟩) n cap) vH U (S.set i x) H c := by
  have ho : (Value.slice (some ⟨g, 0, none⟩) n cap).ownBlock = some g := by simp [Value.ownBlock]
  have hd := h.dS g ho
  exact ⟨blk_set_far h.blk (fun e => h.ne h.s (ho.trans (by rw [e]))) _, h.u.far (fun e => (h.dU g e).1 ho) i _, h.s.put i x, h.h.far hd.1 i _, h.dU, h.dS, h.dH, h.pF, by rw [List.length_set]; exact h.lS, h.lH⟩
theorem UO.setH {g n cap : Nat} (h : UO w F p vU vS (.slice (some ⟨g, 0, none⟩) n cap) U S H c) (i : Nat) (x : Int) : UO (w.setCell ⟨g, i, none⟩ (.int .i64 x)) F p vU vS (.slice (some ⟨g, 0, none⟩) n cap) U S (H.set i x) c := by
  have ho : (Value.slice (some ⟨g, 0, none⟩) n cap).ownBlock = some g := by simp [Value.ownBlock]
  exact ⟨blk_set_far h.blk (fun e => h.ne h.h (ho.trans (by rw [e]))) _, h.u.far (fun e => (h.dU g e).2.1 ho) i _, h.s.far (fun e => (h.dS g e).1 ho) i _, h.h.put i x, h.dU, h.dS, h.dH, h.pF, h.lS, by rw [List.length_set]; exact h.lH⟩
theorem UO.setC (h : UO w F p vU vS vH U S H c) (x : Int) : UO (w.setCell ⟨p, 3, none⟩ (.int .i64 x)) F p vU vS vH U S H x :=
  ⟨blk_set h.blk 3 _, h.u.far (h.ne h.u) 3 _, h.s.far (h.ne h.s) 3 _, h.h.far (h.ne h.h) 3 _, h.dU, h.dS, h.dH, h.pF, h.lS, h.lH⟩
theorem UO.chg {G : Nat → Prop} (h : UO w F p vU vS vH U S H c) (hC : Chg G w w1) (hd : ∀ k, F k → ¬ G k) : UO w1 F p vU vS vH U S H c :=
  ⟨hC.blk h.blk (hd _ h.pF), Kd.R_step h.u (fun k hk hlt => hC.block k hlt (hd k (h.dU k hk).2.2)), Kd.R_step h.s (fun k hk hlt => hC.block k hlt (hd k (h.dS k hk).2)), Kd.R_step h.h (fun k hk hlt => hC.block k hlt (hd k (h.dH k hk))), h.dU, h.dS, h.dH, h.pF, h.lS, h.lH⟩
theorem UO.below (h : UO w F p vU vS vH U S H c) (hb : Below w.heap.size w w1) : UO w1 F p vU vS vH U S H c := h.chg (Chg.of_below hb (fun _ => False)) (fun _ _ hk => hk)
theorem UO.mono (h : UO w F p vU vS vH U S H c) (hF : ∀ k, F k → F' k) : UO w F' p vU vS vH U S H c :=
  ⟨h.blk, h.u, h.s, h.h, fun k hk => ⟨(h.dU k hk).1, (h.dU k hk).2.1, hF k (h.dU k hk).2.2⟩, fun k hk => ⟨(h.dS k hk).1, hF k (h.dS k hk).2⟩, fun k hk => hF k (h.dH k hk), hF p h.pF, h.lS, h.lH⟩
end

/-- Who is above whom: a forest with the roots R; d counts down. -/
structure Forest (U : List Int) (R d : Nat → Nat) : Prop where
  at_ : ∀ i, i < U.length → ∃ j : Nat, rd U i = (j : Int) ∧ j < U.length ∧ R j = R i ∧ R i < U.length ∧ rd U (R i) = (R i : Int) ∧ (j = i → R i = i) ∧ (j ≠ i → d j < d i)
theorem Forest.press {U : List Int} {R d : Nat → Nat} (h : Forest U R d) {n m k : Nat} (hn : n < U.length) (hm : rd U n = (m : Int)) (hk : rd U m = (k : Int)) (hne : m ≠ n) :
    Forest (U.set n (k : Int)) R d ∧ k < U.length ∧ R k = R n ∧ d k < d n := by
  obtain ⟨m', e1, m1, m2, m3, m4, m5, m6⟩ := h.at_ n hn
  obtain rfl : m' = m := by omega
  obtain ⟨k', e2, k1, k2, k3, k4, k5, k6⟩ := h.at_ m' m1
  obtain rfl : k' = k := by omega
  have hd : d k' < d n := by
    have := m6 hne
    by_cases e : k' = m'
    · rw [e]; exact this
    · have := k6 e; omega
  have hkn : k' ≠ n := fun e => by rw [e] at hd; omega
  refine ⟨⟨fun i hi => ?_⟩, k1, k2.trans m2, hd⟩
  rw [List.length_set] at hi ⊢
  have hroot : ∀ i, i < U.length → R i ≠ n := fun i hi e => by
    obtain ⟨j, _, _, _, _, r4, _, _⟩ := h.at_ i hi
    rw [e, e1] at r4
    omega
  by_cases hin : i = n
  · subst hin
    refine ⟨k', rd_set_same U i _ hi, k1, k2.trans m2, m3, ?_, fun e => absurd e hkn, fun _ => hd⟩
    rw [rd_set_ne U i _ _ (hroot i hi)]; exact m4
  · obtain ⟨j, r1, r2, r3, r4, r5, r6, r7⟩ := h.at_ i hi
    refine ⟨j, by rw [rd_set_ne U n i _ hin]; exact r1, r2, r3, r4, ?_, r6, r7⟩
    rw [rd_set_ne U n _ _ (hroot i hi)]; exact r5

set_option maxHeartbeats 1000000 in
set_option maxRecDepth 100000 in
theorem there_any (p : Nat) (F : Nat → Prop) (vU vS vH : Value) (U S H : List Int) (c n : Int) (w : World) (h : UO w F p vU vS vH U S H c) :
    Calls Tryz.prog 112 #[.pointer (some ⟨p, 0, none⟩), .int .i64 n] w fun e w' => e = .returned (.bool (decide (0 ≤ n ∧ n < U.length))) ∧ w = w' := by
  obtain ⟨A, cU, rfl, hc, hr⟩ := Kd.R_reads h.u
  have c0 := blk_cell h.blk 0
  clear h hr
  by_cases h0 : 0 ≤ n
  · by_cases h1 : n < (U.length : Int)
    · rw [decide_eq_true (⟨h0, h1⟩ : 0 ≤ n ∧ n < (U.length : Int))]
      go_enter Tryz.func112, Tryz.ntmps112
      go_wp2
      go_ret
      exact ⟨rfl, rfl⟩
    · rw [decide_eq_false (fun h : 0 ≤ n ∧ n < (U.length : Int) => h1 h.2)]
      go_enter Tryz.func112, Tryz.ntmps112
      go_wp2
      go_ret
      exact ⟨rfl, rfl⟩
  · rw [decide_eq_false (fun h : 0 ≤ n ∧ n < (U.length : Int) => h0 h.1)]
    go_enter Tryz.func112, Tryz.ntmps112
    go_wp2
    go_ret
    exact ⟨rfl, rfl⟩

set_option maxHeartbeats 2000000 in
set_option maxRecDepth 100000 in
theorem root_any (p : Nat) (F : Nat → Prop) (vU vS vH : Value) (U S H : List Int) (c : Int) (R d : Nat → Nat) (n : Nat) (w : World) (h : UO w F p vU vS vH U S H c) (hf : Forest U R d) (hn : n < U.length) :
    Calls Tryz.prog 139 #[.pointer (some ⟨p, 0, none⟩), .int .i64 (n : Int)] w fun e w' => e = .returned (.int .i64 (R n : Int)) ∧ ∃ U', UO w' F p vU vS vH U' S H c ∧ Forest U' R d ∧ U'.length = U.length ∧ Chg F w w' := by
  obtain ⟨g, cap, rfl⟩ := h.u.slice (by omega)
  have hF : F g := (h.dU g (by simp [Value.ownBlock])).2.2
  obtain ⟨N, hN⟩ : ∃ N, U.length = N := ⟨_, rfl⟩
  rw [hN] at h hn ⊢
  obtain ⟨rn, hrn⟩ : ∃ rn, R n = rn := ⟨_, rfl⟩
  rw [hrn]
  have Hrn := Aside0.mk hrn
  clear hrn
  go_enter Tryz.func139, Tryz.ntmps139
  go_wp2_with fail
  go_loopw [1] (fun I wr => ∃ (m : Nat) (U' : List Int), I = .int .i64 (m : Int) ∧ m < N ∧ R m = R n ∧ UO wr F p (.slice (some ⟨g, 0, none⟩) N cap) vS vH U' S H c ∧ Forest U' R d ∧ U'.length = N ∧ Chg F w wr) (fun I _ => d (intOf I).toNat)
  case atStart => exact ⟨n, U, rfl, hn, rfl, h, hf, hN, Chg.refl _ _⟩
  case round =>
    obtain ⟨m, U', rfl, hm, hR, h1, hf1, hN1, hC⟩ := hrel
    have hm' : m < U'.length := by omega
    obtain ⟨k, e1, k1, k2, k3, k4, k5, k6⟩ := hf1.at_ m hm'
    obtain ⟨k', e2, _⟩ := hf1.at_ k k1
    have c0 := blk_cell h1.blk 0
    have c1 := (h1.u.cell m hm').1
    have z1 := (h1.u.cell m hm').2
    have c2 := (h1.u.cell k k1).1
    rw [e1] at c1
    rw [e2] at c2
    have i0 : (0 : Int) ≤ (m : Int) := by omega
    have i1 : (m : Int) < (N : Int) := by omega
    have i2 : (0 : Int) ≤ (k : Int) := by omega
    have i3 : (k : Int) < (N : Int) := by omega
    have i4 : (0 : Int) ≤ (k' : Int) := by omega
    by_cases hkm : k = m
    · subst hkm
      have hend := Aside0.mk (show (k : Int) = (rn : Int) by rw [← Hrn.out, ← hR, k5 rfl])
      have hbn : ((k : Int) != (k : Int)) = false := by simp
      go_wp2
      go_ret
      rw [hend.out]
      exact ⟨rfl, U', h1, hf1, hN1, hC⟩
    · have hkm' : (k : Int) ≠ (m : Int) := by omega
      have hbn : ((k : Int) != (m : Int)) = true := by simpa using hkm'
      have hpg : p ≠ g := fun e => h1.ne h1.u (by simp [Value.ownBlock, e])
      have d0 : ∀ x, (wr.setCell ⟨g, m, none⟩ x).cell? ⟨p, 0, none⟩ = some (.slice (some ⟨g, 0, none⟩) N cap) := fun x => (World.cell?_setCell_far wr ⟨g, m, none⟩ ⟨p, 0, none⟩ x (fun e => hpg e.symm)).trans c0
      obtain ⟨p1, p2, p3, p4⟩ := hf1.press hm' e1 e2 hkm
      have Hp := Aside0.mk p1
      have H1 := Aside0.mk h1
      clear p1 h1 hf1 hf h
      go_wp2_with fail
      go_region
      all_goals (go_wp2_with fail; go_roundw)
      case rel => exact ⟨k', _, by go_num, by omega, by rw [p3, hR], (H1.out.setU m _).below (below_drew (Below.refl _ _)), Hp.out, by rw [List.length_set]; exact hN1, (hC.then_ (Chg.setCell _ (p := ⟨g, m, none⟩) hF _) (fun k hk => .inl hk)).andBelow (below_drew (Below.refl _ _))⟩
      case measure => simp [intOf]; omega
end Go.Proofs.YtkpadjhdneiniaaGreatDoor.Un
end

/- Ub: Heads: what a union means; what joining a pair does to it. Plain. -/
section
namespace Go.Proofs.YtkpadjhdneiniaaGreatDoor.Un
open Go.RowKit Go.Proofs.YtkpadjhdneiniaaGreatDoorW.PrintWords Go.Proofs.YtkpadjhdneiniaaGreatDoorW.PrintLast Go.Proofs.YtkpadjhdneiniaaGreatDoorW.PrintMore
open Go.Proofs.YtkpadjhdneiniaaGreatDoor.Base Go.Proofs.YtkpadjhdneiniaaGreatDoor.Map Go.Proofs.YtkpadjhdneiniaaGreatDoor.Ow
set_option linter.unusedVariables false

/-- each number's head is the least of its class -/
structure Canon (hs : List Int) : Prop where
  at_ : ∀ i, i < hs.length → ∃ h : Nat, rd hs i = (h : Int) ∧ h ≤ i ∧ rd hs h = (h : Int)
/-- how many classes -/
def cntOf (hs : List Int) : Nat := (List.range hs.length).countP fun (i : Nat) => decide (rd hs i = (i : Int))
theorem cnt_le (hs : List Int) : cntOf hs ≤ hs.length := by
  have := List.countP_le_length (p := fun (i : Nat) => decide (rd hs i = (i : Int))) (l := List.range hs.length)
  rwa [List.length_range] at this
/-- the classes of a and b are one -/
def joinL (hs : List Int) (a b : Nat) : List Int := hs.map fun x => if x = max (rd hs a) (rd hs b) then min (rd hs a) (rd hs b) else x
theorem joinL_len (hs : List Int) (a b : Nat) : (joinL hs a b).length = hs.length := by simp [joinL]
theorem joinL_rd (hs : List Int) (a b i : Nat) (h : i < hs.length) : rd (joinL hs a b) i = if rd hs i = max (rd hs a) (rd hs b) then min (rd hs a) (rd hs b) else rd hs i := by
  rw [rd_nat _ _ (by rw [joinL_len]; exact h), rd_nat hs i h]
  simp [joinL]
theorem joinL_same (hs : List Int) (a b : Nat) (h : rd hs a = rd hs b) : joinL hs a b = hs := by
  unfold joinL
  rw [h]
  conv => rhs; rw [← List.map_id hs]
  exact List.map_congr_left (fun x _ => by
    have h1 : max (rd hs b) (rd hs b) = rd hs b := by omega
    have h2 : min (rd hs b) (rd hs b) = rd hs b := by omega
    rw [h1, h2]
    by_cases e : x = rd hs b
    · rw [if_pos e]; exact e.symm
    · rw [if_neg e]; rfl)
theorem Canon.join {hs : List Int} (h : Canon hs) {a b : Nat} (ha : a < hs.length) (hb : b < hs.length) : Canon (joinL hs a b) := by
  by_cases hab : rd hs a = rd hs b
  · rw [joinL_same hs a b hab]; exact h
  refine ⟨fun i hi => ?_⟩
  rw [joinL_len] at hi
  obtain ⟨k, k1, k2, k3⟩ := h.at_ i hi
  obtain ⟨x, x1, x2, x3⟩ := h.at_ a ha
  obtain ⟨y, y1, y2, y3⟩ := h.at_ b hb
  rw [joinL_rd hs a b i hi, k1, x1, y1]
  rw [x1, y1] at hab
  by_cases e : (k : Int) = max (x : Int) (y : Int)
  · rw [if_pos e]
    refine ⟨min x y, by omega, by omega, ?_⟩
    rw [joinL_rd hs a b _ (by omega), x1, y1]
    have h3 : rd hs (min x y : Nat) = ((min x y : Nat) : Int) := by
      rcases Nat.le_total x y with h | h
      · rw [Nat.min_eq_left h]; exact x3
      · rw [Nat.min_eq_right h]; exact y3
    rw [h3, if_neg (by omega)]
  · rw [if_neg e]
    refine ⟨k, rfl, k2, ?_⟩
    rw [joinL_rd hs a b k (by omega), k3, x1, y1, if_neg e]
theorem countP_one (p q : Nat → Bool) (k : Nat) (hk : p k = true) (hq : q k = false) (he : ∀ i, i ≠ k → q i = p i) : ∀ N, (List.range N).countP p = (List.range N).countP q + (if k < N then 1 else 0)
  | 0 => by simp
  | N + 1 => by
    rw [List.range_succ, List.countP_append, List.countP_append, countP_one p q k hk hq he N, List.countP_singleton, List.countP_singleton]
    by_cases e : N = k
    · rw [e, hk, hq]; simp
    · rw [he N e]
      by_cases h : k < N
      · have h2 : k < N + 1 := by omega
        simp only [h, h2, if_true]; omega
      · have h2 : ¬ k < N + 1 := by omega
        simp only [h, h2, if_false]; omega
theorem countP_ext {p q : Nat → Bool} : ∀ N, (∀ i, i < N → p i = q i) → (List.range N).countP p = (List.range N).countP q
  | 0, _ => by simp
  | N + 1, h => by rw [List.range_succ, List.countP_append, List.countP_append, countP_ext N (fun i hi => h i (by omega)), List.countP_singleton, List.countP_singleton, h N (by omega)]
theorem cnt_join {hs : List Int} (h : Canon hs) {a b : Nat} (ha : a < hs.length) (hb : b < hs.length) (hab : rd hs a ≠ rd hs b) : cntOf hs = cntOf (joinL hs a b) + 1 := by
  obtain ⟨x, x1, x2, x3⟩ := h.at_ a ha
  obtain ⟨y, y1, y2, y3⟩ := h.at_ b hb
  rw [x1, y1] at hab
  have hm3 : rd hs (max x y : Nat) = ((max x y : Nat) : Int) := by
    rcases Nat.le_total x y with h | h
    · rw [Nat.max_eq_right h]; exact y3
    · rw [Nat.max_eq_left h]; exact x3
  have hmn : rd hs (min x y : Nat) = ((min x y : Nat) : Int) := by
    rcases Nat.le_total x y with h | h
    · rw [Nat.min_eq_left h]; exact x3
    · rw [Nat.min_eq_right h]; exact y3
  have hc := countP_one (fun i : Nat => decide (rd hs i = (i : Int))) (fun i : Nat => decide (rd hs i = (i : Int)) && decide (i ≠ max x y)) (max x y) (decide_eq_true hm3) (by simp) (fun i hi => by simp [hi]) hs.length
  rw [if_pos (by omega)] at hc
  unfold cntOf
  rw [hc, joinL_len]
  congr 1
  refine countP_ext _ (fun i hi => ?_)
  rw [joinL_rd hs a b i hi, x1, y1]
  obtain ⟨k, k1, k2, k3⟩ := h.at_ i hi
  rw [k1]
  by_cases e : (k : Int) = max (x : Int) (y : Int)
  · rw [if_pos e]
    have e2 : k = max x y := by omega
    have h1 : ¬ (min (x : Int) (y : Int) = (i : Int)) := fun e3 => by
      have e4 : i = min x y := by omega
      rw [e4, hmn] at k1
      omega
    rw [decide_eq_false h1]
    by_cases e3 : (k : Int) = (i : Int)
    · have : i = max x y := by omega
      simp [this]
    · rw [decide_eq_false e3]; rfl
  · rw [if_neg e]
    by_cases e3 : (k : Int) = (i : Int)
    · have : i ≠ max x y := by omega
      simp [e3, this]
    · rw [decide_eq_false e3]; rfl

/-- the heads, as the union keeps them -/
structure Heads (R : Nat → Nat) (H hs : List Int) : Prop where
  hd : ∀ i, i < hs.length → rd H (R i) = rd hs i
  inj : ∀ i j, i < hs.length → j < hs.length → rd hs i = rd hs j → R i = R j
  can : Canon hs
theorem Forest.link {U : List Int} {R d : Nat → Nat} (h : Forest U R d) {x y : Nat} (hx : x < U.length) (hy : y < U.length) (hrx : R x = x) (hry : R y = y) (hne : x ≠ y) :
    Forest (U.set y (x : Int)) (fun i => if R i = y then x else R i) (fun i => if R i = y then d i + d x + 1 else d i) := by
  refine ⟨fun i hi => ?_⟩
  rw [List.length_set] at hi ⊢
  obtain ⟨j, r1, r2, r3, r4, r5, r6, r7⟩ := h.at_ i hi
  obtain ⟨jx, s1, s2, s3, s4, s5, s6, s7⟩ := h.at_ x hx
  rw [hrx] at s5
  by_cases hiy : i = y
  · subst hiy
    have hr1 : ¬ R x = i := fun e => hne (by rw [← hrx]; exact e)
    refine ⟨x, rd_set_same U i _ hi, hx, ?_, ?_, ?_, fun e => absurd e hne, fun _ => ?_⟩
    · simp only [hry, if_true, hrx, if_neg hne]
    · simp only [hry, if_true]; exact hx
    · simp only [hry, if_true]; rw [rd_set_ne U i x _ hne]; exact s5
    · simp only [hry, if_true, hrx, if_neg hne]; omega
  · refine ⟨j, by rw [rd_set_ne U y i _ hiy]; exact r1, r2, by simp only [r3], ?_, ?_, fun e => ?_, fun e => ?_⟩
    · by_cases c : R i = y
      · simp only [c, if_true]; exact hx
      · simp only [if_neg c]; exact r4
    · by_cases c : R i = y
      · simp only [c, if_true]; rw [rd_set_ne U y x _ hne]; exact s5
      · simp only [if_neg c]; rw [rd_set_ne U y (R i) _ c]; exact r5
    · have := r6 e
      simp only [this, if_neg hiy]
    · have := r7 e
      simp only [r3]
      by_cases c : R i = y
      · simp only [c, if_true]; omega
      · simp only [if_neg c]; exact this
theorem Heads.link {R : Nat → Nat} {H hs : List Int} (h : Heads R H hs) (hH : H.length = hs.length) (hR : ∀ i, i < hs.length → R i < hs.length ∧ R (R i) = R i) {a b x y : Nat} (ha : a < hs.length) (hb : b < hs.length)
    (hxy : (x = R a ∧ y = R b) ∨ (x = R b ∧ y = R a)) (hne : x ≠ y) :
    Heads (fun i => if R i = y then x else R i) (H.set x (min (rd H x) (rd H y))) (joinL hs a b) := by
  have hxl : x < hs.length := by rcases hxy with ⟨rfl, _⟩ | ⟨rfl, _⟩; exact (hR a ha).1; exact (hR b hb).1
  have hmin : min (rd H x) (rd H y) = min (rd hs a) (rd hs b) := by
    rcases hxy with ⟨rfl, rfl⟩ | ⟨rfl, rfl⟩
    · rw [h.hd a ha, h.hd b hb]
    · rw [h.hd a ha, h.hd b hb, Int.min_comm]
  have hcl : ∀ i, i < hs.length → ((R i = x ∨ R i = y) ↔ (rd hs i = rd hs a ∨ rd hs i = rd hs b)) := fun i hi => by
    have e1 : R i = R a ↔ rd hs i = rd hs a := ⟨fun e => by rw [← h.hd i hi, ← h.hd a ha, e], fun e => h.inj i a hi ha e⟩
    have e2 : R i = R b ↔ rd hs i = rd hs b := ⟨fun e => by rw [← h.hd i hi, ← h.hd b hb, e], fun e => h.inj i b hi hb e⟩
    rcases hxy with ⟨rfl, rfl⟩ | ⟨rfl, rfl⟩
    · rw [e1, e2]
    · rw [e1, e2]; exact Or.comm
  have hval : ∀ i, i < hs.length → rd (joinL hs a b) i = if (R i = x ∨ R i = y) then min (rd hs a) (rd hs b) else rd hs i := fun i hi => by
    rw [joinL_rd hs a b i hi]
    by_cases c : R i = x ∨ R i = y
    · rw [if_pos c]
      rcases (hcl i hi).1 c with e | e <;> (rw [e]; split <;> omega)
    · rw [if_neg c]
      have h2 := (not_congr (hcl i hi)).1 c
      rw [not_or] at h2
      rw [if_neg (by omega)]
  refine ⟨fun i hi => ?_, fun i j hi hj e => ?_, h.can.join ha hb⟩
  · rw [joinL_len] at hi
    rw [hval i hi]
    by_cases c : R i = y
    · simp only [c, if_true, or_true]
      rw [rd_set_same H x _ (by omega), hmin]
    · simp only [if_neg c]
      by_cases c2 : R i = x
      · simp only [c2, true_or, if_true]
        rw [rd_set_same H x _ (by omega), hmin]
      · rw [if_neg (by rintro (e | e); exact c2 e; exact c e), rd_set_ne H x _ _ c2, h.hd i hi]
  · rw [joinL_len] at hi hj
    rw [hval i hi, hval j hj] at e
    have key : ∀ k, k < hs.length → ¬ (R k = x ∨ R k = y) → rd hs k ≠ min (rd hs a) (rd hs b) := fun k hk c e => by
      have h2 := (not_congr (hcl k hk)).1 c
      rw [not_or] at h2
      omega
    by_cases ci : R i = x ∨ R i = y
    · rw [if_pos ci] at e
      by_cases cj : R j = x ∨ R j = y
      · have : ∀ k, (R k = x ∨ R k = y) → (if R k = y then x else R k) = x := fun k hk => by
          rcases hk with e | e
          · by_cases c : R k = y
            · rw [if_pos c]
            · rw [if_neg c]; exact e
          · rw [if_pos e]
        rw [this i ci, this j cj]
      · rw [if_neg cj] at e
        exact absurd e.symm (key j hj cj)
    · rw [if_neg ci] at e
      by_cases cj : R j = x ∨ R j = y
      · rw [if_pos cj] at e
        exact absurd e (key i hi ci)
      · rw [if_neg cj] at e
        have := h.inj i j hi hj e
        simp only [this]
end Go.Proofs.YtkpadjhdneiniaaGreatDoor.Un
end

/- Uc: union.Union: pair. -/
section
namespace Go.Proofs.YtkpadjhdneiniaaGreatDoor.Un
open Go.RowKit Go.Proofs.YtkpadjhdneiniaaGreatDoorW.PrintWords Go.Proofs.YtkpadjhdneiniaaGreatDoorW.PrintLast Go.Proofs.YtkpadjhdneiniaaGreatDoorW.PrintMore
open Go.Proofs.YtkpadjhdneiniaaGreatDoor.Base Go.Proofs.YtkpadjhdneiniaaGreatDoor.Map Go.Proofs.YtkpadjhdneiniaaGreatDoor.Ow
set_option linter.unusedVariables false
attribute [local go_sem] max2_int min2_int max_two min_two

/-- The union in block p, told by each number's head. -/
structure Uni (w : World) (F : Nat → Prop) (p : Nat) (vU vS vH : Value) (hs : List Int) : Prop where
  mk :: (out : ∃ U S H R d, UO w F p vU vS vH U S H (cntOf hs : Int) ∧ Forest U R d ∧ Heads R H hs ∧ U.length = hs.length)
theorem Uni.chg {w w1 : World} {F G : Nat → Prop} {p : Nat} {vU vS vH : Value} {hs : List Int} (h : Uni w F p vU vS vH hs) (hC : Chg G w w1) (hd : ∀ k, F k → ¬ G k) : Uni w1 F p vU vS vH hs := by
  obtain ⟨U, S, H, R, d, h1, h2⟩ := h
  exact ⟨U, S, H, R, d, h1.chg hC hd, h2⟩
theorem Uni.below {w w1 : World} {F : Nat → Prop} {p : Nat} {vU vS vH : Value} {hs : List Int} (h : Uni w F p vU vS vH hs) (hb : Below w.heap.size w w1) : Uni w1 F p vU vS vH hs := h.chg (Chg.of_below hb (fun _ => False)) (fun _ _ hk => hk)
theorem Uni.can {w : World} {F : Nat → Prop} {p : Nat} {vU vS vH : Value} {hs : List Int} (h : Uni w F p vU vS vH hs) : Canon hs := by
  obtain ⟨U, S, H, R, d, _, _, h3, _⟩ := h
  exact h3.can

theorem Forest.roots {U : List Int} {R d : Nat → Nat} (h : Forest U R d) (i : Nat) (hi : i < U.length) : R i < U.length ∧ R (R i) = R i := by
  obtain ⟨j, _, _, _, r4, r5, _, _⟩ := h.at_ i hi
  obtain ⟨k, s1, _, _, _, _, s6, _⟩ := h.at_ (R i) r4
  exact ⟨r4, s6 (by omega)⟩

/-- behind the stores -/
theorem uni_linked {W : World} {F : Nat → Prop} {p : Nat} {vU vS vH : Value} {U S' H hs : List Int} {R d : Nat → Nat} {a b x y : Nat} (hf : Forest U R d) (hh : Heads R H hs) (hl : U.length = hs.length)
    (ha : a < hs.length) (hb : b < hs.length) (hxy : (x = R a ∧ y = R b) ∨ (x = R b ∧ y = R a)) (hne : x ≠ y) (lH : H.length = U.length)
    (h : UO W F p vU vS vH (U.set y (x : Int)) S' (H.set x (min (rd H x) (rd H y))) ((cntOf hs : Int) - 1)) :
    Uni W F p vU vS vH (joinL hs a b) := by
  have hr : ∀ i, i < hs.length → R i < hs.length ∧ R (R i) = R i := fun i hi => by
    have := hf.roots i (by omega)
    rw [hl] at this
    exact this
  have hne' : R a ≠ R b := by rcases hxy with ⟨e1, e2⟩ | ⟨e1, e2⟩ <;> omega
  have hab : rd hs a ≠ rd hs b := fun e => hne' (hh.inj a b ha hb e)
  have hx : x < hs.length ∧ R x = x := by
    rcases hxy with ⟨rfl, _⟩ | ⟨rfl, _⟩
    · exact hr a ha
    · exact hr b hb
  have hy : y < hs.length ∧ R y = y := by
    rcases hxy with ⟨_, rfl⟩ | ⟨_, rfl⟩
    · exact hr b hb
    · exact hr a ha
  have hcj := cnt_join hh.can ha hb hab
  have hc : (cntOf hs : Int) - 1 = (cntOf (joinL hs a b) : Int) := by omega
  rw [hc] at h
  exact ⟨_, _, _, _, _, h, hf.link (by omega) (by omega) hx.2 hy.2 hne, hh.link (by omega) hr ha hb hxy hne, by rw [List.length_set, joinL_len, hl]⟩

set_option maxHeartbeats 4000000 in
set_option maxRecDepth 100000 in
theorem pair_any (p : Nat) (F : Nat → Prop) (vU vS vH : Value) (hs : List Int) (a b : Nat) (w : World) (h : Uni w F p vU vS vH hs) (ha : a < hs.length) (hb : b < hs.length) (hlen : hs.length ≤ 1000000) :
    Calls Tryz.prog 113 #[.pointer (some ⟨p, 0, none⟩), .int .i64 (a : Int), .int .i64 (b : Int)] w fun e w' => e = .returned (.bool (decide (rd hs a ≠ rd hs b))) ∧ Uni w' F p vU vS vH (joinL hs a b) ∧ Chg F w w' := by
  obtain ⟨U0, S, H, R, d, h0, hf0, hh, hl0⟩ := h
  have Hh := Aside0.mk hh
  have Hf0 := Aside0.mk hf0
  have H0 := Aside0.mk h0
  clear hh hf0 h0
  by_cases heq : R a = R b
  · have hab : rd hs a = rd hs b := by rw [← Hh.out.hd a ha, ← Hh.out.hd b hb, heq]
    rw [joinL_same hs a b hab, decide_eq_false (fun h : rd hs a ≠ rd hs b => h hab)]
    obtain ⟨x, hx⟩ : ∃ x, R a = x := ⟨_, rfl⟩
    have hx2 : R b = x := by rw [← heq, hx]
    have Hx := Aside0.mk hx
    have Hx2 := Aside0.mk hx2
    clear heq hab hx hx2
    go_enter Tryz.func113, Tryz.ntmps113
    go_wp2_with fail
    refine (root_any p F vU vS vH U0 S H _ R d a _ H0.out Hf0.out (by omega)).mono ?_
    rintro e w1 ⟨rfl, U1, h1, hf1, hl1, hC1⟩
    rw [Hx.out]
    have H1 := Aside0.mk h1
    have Hf1 := Aside0.mk hf1
    clear h1 hf1
    go_wp2_with fail
    refine (root_any p F vU vS vH U1 S H _ R d b _ H1.out Hf1.out (by omega)).mono ?_
    rintro e w2 ⟨rfl, U2, h2, hf2, hl2, hC2⟩
    rw [Hx2.out]
    have H2 := Aside0.mk h2
    have Hf2 := Aside0.mk hf2
    clear h2 hf2
    go_wp2
    go_ret
    exact ⟨rfl, ⟨U2, S, H, R, d, H2.out, Hf2.out, Hh.out, by omega⟩, hC1.then_ hC2 (fun k hk => .inl hk)⟩
  · have hab : rd hs a ≠ rd hs b := fun e => heq (Hh.out.inj a b ha hb e)
    rw [decide_eq_true hab]
    have hra := (Hf0.out.roots a (by omega)).1
    have hrb := (Hf0.out.roots b (by omega)).1
    obtain ⟨x0, hx⟩ : ∃ x, R a = x := ⟨_, rfl⟩
    obtain ⟨y0, hy⟩ : ∃ y, R b = y := ⟨_, rfl⟩
    rw [hx] at hra heq
    rw [hy] at hrb heq
    have Hx := Aside0.mk hx
    have Hy := Aside0.mk hy
    have hxy : (x0 : Int) ≠ (y0 : Int) := by omega
    have hcn1 := cnt_le hs
    have hcn2 := cnt_join Hh.out.can ha hb hab
    have hcn3 : (0 : Int) ≤ (cntOf hs : Int) - 1 := by omega
    have hcn4 : (cntOf hs : Int) - 1 ≤ 1000000 := by omega
    clear hcn1 hcn2
    clear hab hx hy
    go_enter Tryz.func113, Tryz.ntmps113
    go_wp2_with fail
    refine (root_any p F vU vS vH U0 S H _ R d a _ H0.out Hf0.out (by omega)).mono ?_
    rintro e w1 ⟨rfl, U1, h1, hf1, hl1, hC1⟩
    rw [Hx.out]
    have H1 := Aside0.mk h1
    have Hf1 := Aside0.mk hf1
    clear h1 hf1
    go_wp2_with fail
    refine (root_any p F vU vS vH U1 S H _ R d b _ H1.out Hf1.out (by omega)).mono ?_
    rintro e w2 ⟨rfl, U2, h2, hf2, hl2, hC2⟩
    rw [Hy.out]
    have hC := hC1.then_ hC2 (fun k hk => .inl hk)
    have hf2 := Aside0.mk hf2
    obtain ⟨gU, cU, rfl⟩ := h2.u.slice (by omega)
    obtain ⟨gS, cS, rfl⟩ := h2.s.slice (by rw [h2.lS]; omega)
    obtain ⟨gH, cH, rfl⟩ := h2.h.slice (by rw [h2.lH]; omega)
    have hFU : F gU := (h2.dU gU (by simp [Value.ownBlock])).2.2
    have hFS : F gS := (h2.dS gS (by simp [Value.ownBlock])).2
    have hFH : F gH := h2.dH gH (by simp [Value.ownBlock])
    have hFp : F p := h2.pF
    have lS := h2.lS
    have lH := h2.lH
    obtain ⟨N, hN⟩ : ∃ N, U2.length = N := ⟨_, rfl⟩
    rw [lS, lH, hN] at h2
    rw [hN] at lS lH
    have hNN : N = hs.length := by omega
    have hx1 : x0 < N := by omega
    have hy1 : y0 < N := by omega
    have c1 := blk_cell h2.blk 1
    have a1 := (h2.s.cell x0 (by omega)).1
    have a2 := (h2.s.cell y0 (by omega)).1
    have i0 : (0 : Int) ≤ (x0 : Int) := by omega
    have i1 : (x0 : Int) < (N : Int) := by omega
    have j0 : (0 : Int) ≤ (y0 : Int) := by omega
    have j1 : (y0 : Int) < (N : Int) := by omega
    have HNN := Aside0.mk hNN
    clear hNN
    have H2 := Aside0.mk h2
    clear H0 Hf0 H1 Hf1 hC1 hC2 h2
    go_wp2_with fail
    go_quiet (fail)
    have h3 := H2.out.below (pw_below_drewN (Below.refl _ _) nq)
    have hC3 := hC.andBelow (pw_below_drewN (Below.refl _ _) nq)
    generalize w2.drewN nq = w3 at *
    by_cases hS : rd S x0 < rd S y0
    · have c0 := blk_cell h3.blk 0
      have aY := (h3.u.cell x0 (by omega)).1
      have zY := (h3.u.cell x0 (by omega)).2
      go_wp2_with fail
      have h4 := h3.setU x0 (y0 : Int)
      have hC4 := hC3.then_ (Chg.setCell w3 (p := ⟨gU, x0, none⟩) hFU (.int .i64 (y0 : Int))) (fun k hk => .inl hk)
      generalize w3.setCell ⟨gU, x0, none⟩ (.int .i64 (y0 : Int)) = w4 at *
      clear c0 aY zY h3 hC3 a1 a2 c1
      have c1 := blk_cell h4.blk 1
      have a1 := (h4.s.cell y0 (by omega)).1
      have z1 := (h4.s.cell y0 (by omega)).2
      have a2 := (h4.s.cell x0 (by omega)).1
      go_region
      have h5 := (h4.setS y0 (wrap64 (rd S y0 + rd S x0))).below (below_drew (Below.refl _ _))
      have hC5 := (hC4.then_ (Chg.setCell w4 (p := ⟨gS, y0, none⟩) hFS (.int .i64 (wrap64 (rd S y0 + rd S x0)))) (fun k hk => .inl hk)).andBelow (below_drew (Below.refl _ _))
      generalize (w4.setCell ⟨gS, y0, none⟩ (.int .i64 (wrap64 (rd S y0 + rd S x0)))).drew = w5 at *
      clear c1 a1 z1 a2 h4 hC4
      have c2 := blk_cell h5.blk 2
      have a1 := (h5.h.cell y0 (by omega)).1
      have z1 := (h5.h.cell y0 (by omega)).2
      have a2 := (h5.h.cell x0 (by omega)).1
      go_wp2_with fail
      go_region
      have hm : (if rd H x0 < rd H y0 then rd H x0 else rd H y0) = min (rd H y0) (rd H x0) := by split <;> omega
      rw [hm]
      have h6 := (h5.setH y0 (min (rd H y0) (rd H x0))).below (below_drew (Below.refl _ _))
      have hC6 := (hC5.then_ (Chg.setCell w5 (p := ⟨gH, y0, none⟩) hFH (.int .i64 (min (rd H y0) (rd H x0)))) (fun k hk => .inl hk)).andBelow (below_drew (Below.refl _ _))
      generalize (w5.setCell ⟨gH, y0, none⟩ (.int .i64 (min (rd H y0) (rd H x0)))).drew = w6 at *
      clear c2 a1 z1 a2 h5 hC5 hm
      have c3 := blk_cell h6.blk 3
      have z3 := blk_frozen h6.blk 3
      have H6 := Aside0.mk h6
      clear h6
      go_wp2
      go_ret
      simp only [hN, lS, lH]
      exact ⟨rfl, uni_linked hf2.out Hh.out (hN.trans HNN.out) ha hb (.inr ⟨by rw [Hy.out], by rw [Hx.out]⟩) (by omega) (lH.trans hN.symm) (H6.out.setC _), hC6.then_ (Chg.setCell w6 (p := ⟨p, 3, none⟩) hFp _) (fun k hk => .inl hk)⟩
    · have c0 := blk_cell h3.blk 0
      have aY := (h3.u.cell y0 (by omega)).1
      have zY := (h3.u.cell y0 (by omega)).2
      go_wp2_with fail
      have h4 := h3.setU y0 (x0 : Int)
      have hC4 := hC3.then_ (Chg.setCell w3 (p := ⟨gU, y0, none⟩) hFU (.int .i64 (x0 : Int))) (fun k hk => .inl hk)
      generalize w3.setCell ⟨gU, y0, none⟩ (.int .i64 (x0 : Int)) = w4 at *
      clear c0 aY zY h3 hC3 a1 a2 c1
      have c1 := blk_cell h4.blk 1
      have a1 := (h4.s.cell x0 (by omega)).1
      have z1 := (h4.s.cell x0 (by omega)).2
      have a2 := (h4.s.cell y0 (by omega)).1
      go_region
      have h5 := (h4.setS x0 (wrap64 (rd S x0 + rd S y0))).below (below_drew (Below.refl _ _))
      have hC5 := (hC4.then_ (Chg.setCell w4 (p := ⟨gS, x0, none⟩) hFS (.int .i64 (wrap64 (rd S x0 + rd S y0)))) (fun k hk => .inl hk)).andBelow (below_drew (Below.refl _ _))
      generalize (w4.setCell ⟨gS, x0, none⟩ (.int .i64 (wrap64 (rd S x0 + rd S y0)))).drew = w5 at *
      clear c1 a1 z1 a2 h4 hC4
      have c2 := blk_cell h5.blk 2
      have a1 := (h5.h.cell x0 (by omega)).1
      have z1 := (h5.h.cell x0 (by omega)).2
      have a2 := (h5.h.cell y0 (by omega)).1
      go_wp2_with fail
      go_region
      have hm : (if rd H y0 < rd H x0 then rd H y0 else rd H x0) = min (rd H x0) (rd H y0) := by split <;> omega
      rw [hm]
      have h6 := (h5.setH x0 (min (rd H x0) (rd H y0))).below (below_drew (Below.refl _ _))
      have hC6 := (hC5.then_ (Chg.setCell w5 (p := ⟨gH, x0, none⟩) hFH (.int .i64 (min (rd H x0) (rd H y0)))) (fun k hk => .inl hk)).andBelow (below_drew (Below.refl _ _))
      generalize (w5.setCell ⟨gH, x0, none⟩ (.int .i64 (min (rd H x0) (rd H y0)))).drew = w6 at *
      clear c2 a1 z1 a2 h5 hC5 hm
      have c3 := blk_cell h6.blk 3
      have z3 := blk_frozen h6.blk 3
      have H6 := Aside0.mk h6
      clear h6
      go_wp2
      go_ret
      simp only [hN, lS, lH]
      exact ⟨rfl, uni_linked hf2.out Hh.out (hN.trans HNN.out) ha hb (.inl ⟨by rw [Hx.out], by rw [Hy.out]⟩) (by omega) (lH.trans hN.symm) (H6.out.setC _), hC6.then_ (Chg.setCell w6 (p := ⟨p, 3, none⟩) hFp _) (fun k hk => .inl hk)⟩
end Go.Proofs.YtkpadjhdneiniaaGreatDoor.Un
end

/- Ud: union.Union: Head, Same. -/
section
namespace Go.Proofs.YtkpadjhdneiniaaGreatDoor.Un
open Go.RowKit Go.Proofs.YtkpadjhdneiniaaGreatDoorW.PrintWords Go.Proofs.YtkpadjhdneiniaaGreatDoorW.PrintLast Go.Proofs.YtkpadjhdneiniaaGreatDoorW.PrintMore
open Go.Proofs.YtkpadjhdneiniaaGreatDoor.Base Go.Proofs.YtkpadjhdneiniaaGreatDoor.Map Go.Proofs.YtkpadjhdneiniaaGreatDoor.Ow
set_option linter.unusedVariables false

theorem Uni.len {w : World} {F : Nat → Prop} {p : Nat} {vU vS vH : Value} {hs : List Int} (h : Uni w F p vU vS vH hs) (n : Int) :
    Calls Tryz.prog 112 #[.pointer (some ⟨p, 0, none⟩), .int .i64 n] w fun e w' => e = .returned (.bool (decide (0 ≤ n ∧ n < hs.length))) ∧ w = w' := by
  obtain ⟨U, S, H, R, d, h1, h2, h3, h4⟩ := h
  rw [← h4]
  exact there_any p F vU vS vH U S H _ n w h1
end Go.Proofs.YtkpadjhdneiniaaGreatDoor.Un
end

/- Ue: union.Union: Same. -/
section
namespace Go.Proofs.YtkpadjhdneiniaaGreatDoor.Un
open Go.RowKit Go.Proofs.YtkpadjhdneiniaaGreatDoorW.PrintWords Go.Proofs.YtkpadjhdneiniaaGreatDoorW.PrintLast Go.Proofs.YtkpadjhdneiniaaGreatDoorW.PrintMore
open Go.Proofs.YtkpadjhdneiniaaGreatDoor.Base Go.Proofs.YtkpadjhdneiniaaGreatDoor.Map Go.Proofs.YtkpadjhdneiniaaGreatDoor.Ow
set_option linter.unusedVariables false

theorem st_cell {F : Nat → Prop} {w : World} {A : Option Addr} {c : Nat} {ns : List Int} (hst : ∀ W, Chg F w W → RdV W (.slice A ns.length c) ns) (hl : 0 < ns.length) :
    ∃ ad, A = some ad ∧ ∀ (k : Nat), k < ns.length → ∀ W, Chg F w W → W.cell? (ad.add k) = some (.int .i64 (rd ns k)) := by
  obtain ⟨A1, c1, e1, _, hr⟩ := hst w (Chg.refl F w)
  injection e1 with ea _ _
  subst ea
  obtain ⟨ad, hA, _⟩ := hr.at_ 0 (by omega) (by omega)
  refine ⟨ad, hA, fun k hk W hC => ?_⟩
  obtain ⟨A2, c2, e2, _, hr2⟩ := hst W hC
  injection e2 with ea _ _
  subst ea
  obtain ⟨ad2, hA2, hx⟩ := hr2.at_ (k : Int) (by omega) (by omega)
  rw [hA] at hA2
  injection hA2 with he
  subst he
  exact hx
theorem add_nil (a : Addr) : a.add 0 = a := by unfold Addr.add; simp

end Go.Proofs.YtkpadjhdneiniaaGreatDoor.Un
end

/- Uf: union.Union: Join. -/
section
namespace Go.Proofs.YtkpadjhdneiniaaGreatDoor.Un
open Go.RowKit Go.Proofs.YtkpadjhdneiniaaGreatDoorW.PrintWords Go.Proofs.YtkpadjhdneiniaaGreatDoorW.PrintLast Go.Proofs.YtkpadjhdneiniaaGreatDoorW.PrintMore
open Go.Proofs.YtkpadjhdneiniaaGreatDoor.Base Go.Proofs.YtkpadjhdneiniaaGreatDoor.Map Go.Proofs.YtkpadjhdneiniaaGreatDoor.Ow
set_option linter.unusedVariables false

def foldJ (hs : List Int) (a : Nat) (l : List Int) : List Int := l.foldl (fun h b => joinL h a b.toNat) hs
theorem foldJ_snoc (hs : List Int) (a : Nat) (l : List Int) (x : Int) : foldJ hs a (l ++ [x]) = joinL (foldJ hs a l) a x.toNat := by simp [foldJ, List.foldl_append]
theorem foldJ_len (a : Nat) : ∀ (l hs : List Int), (foldJ hs a l).length = hs.length
  | [], hs => rfl
  | x :: l, hs => by
    have := foldJ_len a l (joinL hs a x.toNat)
    rw [joinL_len] at this
    exact this
/-- what Join leaves -/
def joinS (hs ns : List Int) : List Int := if ∀ k, k < ns.length → (0 ≤ rd ns k ∧ rd ns k < hs.length) then foldJ hs (rd ns (0 : Nat)).toNat (ns.drop 1) else hs
theorem take_step (ns : List Int) (i : Nat) (h0 : 1 ≤ i) (h1 : i < ns.length) : (ns.take (i + 1)).drop 1 = (ns.take i).drop 1 ++ [rd ns i] := by
  rw [List.take_succ_eq_append_getElem h1, List.drop_append_of_le_length (by simp; omega), rd_nat ns i h1]

set_option maxHeartbeats 4000000 in
set_option maxRecDepth 100000 in
theorem join_any (p : Nat) (F : Nat → Prop) (vU vS vH : Value) (hs ns : List Int) (u : Value) (w : World) (h : Uni w F p vU vS vH hs) (hst : ∀ W, Chg F w W → RdV W u ns) (hlen : hs.length ≤ 1000000) (hnl : ns.length ≤ 1000000) :
    Calls Tryz.prog 92 #[.pointer (some ⟨p, 0, none⟩), u] w fun e w' => e = .returned (.bool (decide (joinS hs ns ≠ hs))) ∧ Uni w' F p vU vS vH (joinS hs ns) ∧ Chg F w w' := by
  obtain ⟨A, c, rfl, hc, hr⟩ := hst w (Chg.refl F w)
  have hmax := hr.max
  have Hst := Aside0.mk hst
  obtain ⟨out, hout⟩ : ∃ out, joinS hs ns = out := ⟨_, rfl⟩
  rw [hout]
  have Hyes := Aside0.mk (show (∀ k, k < ns.length → (0 ≤ rd ns k ∧ rd ns k < hs.length)) → out = foldJ hs (rd ns (0 : Nat)).toNat (ns.drop 1) from fun h => by rw [← hout]; unfold joinS; rw [if_pos h])
  have Hno := Aside0.mk (show (¬ ∀ k, k < ns.length → (0 ≤ rd ns k ∧ rd ns k < hs.length)) → out = hs from fun h => by rw [← hout]; unfold joinS; rw [if_neg h])
  obtain ⟨ans, hans⟩ : ∃ b, decide (out ≠ hs) = b := ⟨_, rfl⟩
  rw [hans]
  have Hans := Aside0.mk hans
  clear hst hc hout hans
  go_enter Tryz.func92, Tryz.ntmps92
  go_wp2_with fail
  go_loopw [11] (fun I wr => ∃ i : Nat, I = .int .i64 (i : Int) ∧ i ≤ ns.length ∧ (∀ k, k < i → (0 ≤ rd ns k ∧ rd ns k < hs.length)) ∧ Aside0 (w = wr)) (fun I _ => ns.length - (intOf I).toNat)
  case atStart => exact ⟨0, rfl, Nat.zero_le _, fun k hk => absurd hk (Nat.not_lt_zero k), ⟨rfl⟩⟩
  case round =>
    obtain ⟨i, rfl, hi, hP, ⟨rfl⟩⟩ := hrel
    have HP := Aside0.mk hP
    clear hP
    by_cases hlt : i < ns.length
    · obtain ⟨ad, hA, hcell⟩ := st_cell Hst.out (by omega)
      subst hA
      have ci := hcell i hlt _ (Chg.refl F _)
      have i0 : (0 : Int) ≤ (i : Int) := by omega
      have i1 : (i : Int) < (ns.length : Int) := by omega
      have Hlen := Aside0.mk (h.len (rd ns i))
      clear hcell
      by_cases ht : 0 ≤ rd ns i ∧ rd ns i < hs.length
      · have HP2 := Aside0.mk (show ∀ k, k < i + 1 → (0 ≤ rd ns k ∧ rd ns k < hs.length) from fun k hk => by
          rcases Nat.lt_or_ge k i with h1 | h1
          · exact HP.out k h1
          · obtain rfl : k = i := by omega
            exact ht)
        have Hd := Aside0.mk (decide_eq_true ht)
        clear ht
        generalize rd ns i = n at *
        go_wp2_with fail
        refine Hlen.out.mono ?_
        rintro e w4 ⟨rfl, rfl⟩
        rw [Hd.out]
        go_wp2_with fail
        go_roundw
        case rel => exact ⟨i + 1, by go_num, by omega, HP2.out, ⟨trivial⟩⟩
        case measure => simp [intOf]; omega
      · have hout := Hno.out (fun hall => ht (hall i hlt))
        have Hd := Aside0.mk (decide_eq_false ht)
        have ha : ans = false := by rw [← Hans.out, hout]; simp
        subst hout
        subst ha
        clear ht
        generalize rd ns i = n at *
        go_wp2_with fail
        refine Hlen.out.mono ?_
        rintro e w4 ⟨rfl, rfl⟩
        rw [Hd.out]
        go_wp2
        go_ret
        exact ⟨rfl, h, Chg.refl _ _⟩
    · obtain rfl : i = ns.length := by omega
      have hout := Hyes.out HP.out
      have Hout := Aside0.mk hout
      clear hout Hyes Hno
      go_wp2_with fail
      go_loopw [8, 7] (fun I B wx => ∃ (i : Nat) (cur : List Int) (ch : Bool), I = .int .i64 (i : Int) ∧ B = .bool ch ∧ 1 ≤ i ∧ (i ≤ ns.length ∨ i = 1) ∧ Aside0 (cur = foldJ hs (rd ns (0 : Nat)).toNat ((ns.take i).drop 1)) ∧ Aside0 ((cur = hs ∧ ch = false) ∨ (cntOf cur < cntOf hs ∧ ch = true)) ∧ Uni wx F p vU vS vH cur ∧ Chg F w wx) (fun I _ _ => ns.length - (intOf I).toNat)
      case atStart => exact ⟨1, hs, false, rfl, rfl, by omega, .inr rfl, ⟨by rw [List.drop_eq_nil_of_le (by simp; omega)]; rfl⟩, ⟨.inl ⟨rfl, rfl⟩⟩, h, Chg.refl _ _⟩
      case round =>
        obtain ⟨i, cur, ch, rfl, rfl, hi1, hi2, hcur, hch, hU, hC⟩ := hrel
        by_cases hlt : i < ns.length
        · obtain ⟨ad, hA, hcell⟩ := st_cell Hst.out (by omega)
          subst hA
          have hc0 := hcell 0 (by omega)
          have hci := hcell i hlt
          rw [add_nil] at hc0
          have hstep : foldJ hs (rd ns (0 : Nat)).toNat ((ns.take (i + 1)).drop 1) = joinL cur (rd ns (0 : Nat)).toNat (rd ns i).toNat := by
            rw [take_step ns i hi1 hlt, foldJ_snoc, ← hcur.out]
          have hcl : cur.length = hs.length := by rw [hcur.out, foldJ_len]
          obtain ⟨r0, r1⟩ := HP.out 0 (by omega)
          obtain ⟨s0, s1⟩ := HP.out i hlt
          have Hstep := Aside0.mk hstep
          have i0 : (0 : Int) ≤ (i : Int) := by omega
          have i1 : (i : Int) < (ns.length : Int) := by omega
          have l1 : 0 < ns.length := by omega
          clear hstep hcell hcur h
          obtain ⟨a, ha⟩ : ∃ m : Nat, rd ns (0 : Nat) = (m : Int) := ⟨(rd ns (0 : Nat)).toNat, by omega⟩
          obtain ⟨b, hb⟩ : ∃ m : Nat, rd ns i = (m : Int) := ⟨(rd ns i).toNat, by omega⟩
          rw [ha] at hc0 r0 r1
          rw [hb] at hci s0 s1
          have Hab := Aside0.mk (And.intro ha hb)
          clear ha hb
          have hma : a < cur.length := by omega
          have hmb : b < cur.length := by omega
          have hml : cur.length ≤ 1000000 := by omega
          have hcan := hU.can
          by_cases hne : rd cur a ≠ rd cur b
          · have Hd := Aside0.mk (decide_eq_true hne)
            have hcj := cnt_join hcan hma hmb hne
            have Hch2 := Aside0.mk (show (joinL cur a b = hs ∧ true = false) ∨ (cntOf (joinL cur a b) < cntOf hs ∧ true = true) from .inr ⟨by rcases hch.out with ⟨e, _⟩ | ⟨e, _⟩; rw [← e]; omega; omega, rfl⟩)
            clear hne hcj hcan
            go_wp2_with fail
            refine wp_region_held_drew (S := (fun W => W.cell? ad = some (.int .i64 (a : Int)) ∧ W.cell? (ad.add i) = some (.int .i64 (b : Int)) ∧ Chg F w W)) (by kernel_rfl) ?_ (fun hHeld => ?_)
            · (refine ⟨hc0 _ ?_, hci _ ?_, ?_⟩ <;> simp [*])
            refine wpAnyH_take (i := 0) (oi := _) (v := ?_) (List.getElem?_toArray.trans rfl) (by kernel_rfl) (by kernel_rfl) (by kernel_rfl) (fun _ _ _ h => h) (Or.inl ⟨by rfl, ?_⟩) (by assumption) ?_
            rotate_left
            · intro w hSw; (try dsimp only at hSw); go_simp <;> with_reducible rfl
            try simp only [Act.put, List.setIfInBounds_toArray, List.set_cons_zero, List.set_cons_succ]
            refine wpAnyH_take (i := 1) (oi := _) (v := ?_) (List.getElem?_toArray.trans rfl) (by kernel_rfl) (by kernel_rfl) (by kernel_rfl) (fun _ _ _ h => h) (Or.inl ⟨by rfl, ?_⟩) (by assumption) ?_
            rotate_left
            · intro w hSw; (try dsimp only at hSw); go_simp <;> with_reducible rfl
            try simp only [Act.put, List.setIfInBounds_toArray, List.set_cons_zero, List.set_cons_succ]
            refine wpAnyH_take (i := 2) (oi := _) (v := ?_) (List.getElem?_toArray.trans rfl) (by kernel_rfl) (by kernel_rfl) (by kernel_rfl) (fun _ _ _ h => h) (Or.inl ⟨by rfl, ?_⟩) (by assumption) ?_
            rotate_left
            · intro w hSw; (try dsimp only at hSw); go_simp <;> with_reducible rfl
            try simp only [Act.put, List.setIfInBounds_toArray, List.set_cons_zero, List.set_cons_succ]
            refine wpAnyH_take (i := 3) (oi := _) (v := ?_) (List.getElem?_toArray.trans rfl) (by kernel_rfl) (by kernel_rfl) (by kernel_rfl) (fun _ _ _ h => h) (Or.inl ⟨by rfl, ?_⟩) (by assumption) ?_
            rotate_left
            · intro w hSw; (try dsimp only at hSw); go_simp <;> with_reducible rfl
            try simp only [Act.put, List.setIfInBounds_toArray, List.set_cons_zero, List.set_cons_succ]
            refine wpAnyH_take (i := 4) (oi := _) (v := ?_) (List.getElem?_toArray.trans rfl) (by kernel_rfl) (by kernel_rfl) (by kernel_rfl) (fun _ _ _ h => h) (Or.inl ⟨by rfl, ?_⟩) (by assumption) ?_
            rotate_left
            · intro w hSw; (try dsimp only at hSw); go_simp <;> with_reducible rfl
            try simp only [Act.put, List.setIfInBounds_toArray, List.set_cons_zero, List.set_cons_succ]
            refine wpAnyH_take (i := 5) (oi := _) (v := ?_) (List.getElem?_toArray.trans rfl) (by kernel_rfl) (by kernel_rfl) (by kernel_rfl) (fun _ _ _ h => h) (Or.inl ⟨by rfl, ?_⟩) (by assumption) ?_
            rotate_left
            · intro w hSw; (try dsimp only at hSw); go_simp <;> with_reducible rfl
            try simp only [Act.put, List.setIfInBounds_toArray, List.set_cons_zero, List.set_cons_succ]
            refine wpAnyH_take (i := 6) (oi := _) (v := ?_) (List.getElem?_toArray.trans rfl) (by kernel_rfl) (by kernel_rfl) (by kernel_rfl) (fun _ _ _ h => h) (Or.inl ⟨by rfl, ?_⟩) (by assumption) ?_
            rotate_left
            · intro w hSw; (try dsimp only at hSw); go_simp <;> with_reducible rfl
            try simp only [Act.put, List.setIfInBounds_toArray, List.set_cons_zero, List.set_cons_succ]
            refine wpAnyH_take (i := 7) (oi := _) (v := ?_) (List.getElem?_toArray.trans rfl) (by kernel_rfl) (by kernel_rfl) (by kernel_rfl) (fun _ _ _ h => h) (Or.inl ⟨by rfl, ?_⟩) (by assumption) ?_
            rotate_left
            · intro w hSw; (try dsimp only at hSw); go_simp <;> with_reducible rfl
            try simp only [Act.put, List.setIfInBounds_toArray, List.set_cons_zero, List.set_cons_succ]
            refine wpAnyH_ready (rs := [8]) (by kernel_rfl) (by simp) ?_
            refine AllReadyH.cons (o := _) (List.getElem?_toArray.trans rfl) (fun K hK => ?_) AllReadyH.nil
            go_simp
            refine (pair_any p F vU vS vH cur a b _ (hU.below (below_drew (Below.refl _ _))) hma hmb hml).mono ?_
            rintro e w4 ⟨rfl, h4, h5⟩
            rw [Hd.out]
            have hC4 := (Gr.chg_drew hC).then_ h5 (fun k hk => .inl hk)
            go_wp2_with fail
            refine hK.out _ _ ?_ (fun hHeld => ?_)
            · (refine ⟨hc0 _ ?_, hci _ ?_, ?_⟩ <;> simp [*])
            clear hK K
            try simp only [Act.put, List.setIfInBounds_toArray, List.set_cons_zero, List.set_cons_succ]
            refine wpAnyH_take (i := 9) (oi := _) (v := ?_) (List.getElem?_toArray.trans rfl) (by kernel_rfl) (by kernel_rfl) (by kernel_rfl) (fun _ _ _ h => h) (Or.inl ⟨by rfl, ?_⟩) (by assumption) ?_
            rotate_left
            · intro w hSw; (try dsimp only at hSw); go_simp <;> with_reducible rfl
            try simp only [Act.put, List.setIfInBounds_toArray, List.set_cons_zero, List.set_cons_succ]
            refine wpAnyH_take (i := 10) (oi := _) (v := undef) (List.getElem?_toArray.trans rfl) (by kernel_rfl) (by kernel_rfl) (by kernel_rfl) (fun _ _ _ h => h) (Or.inr ⟨by rfl, rfl⟩) (by assumption) ?_
            try simp only [Act.put, List.setIfInBounds_toArray, List.set_cons_zero, List.set_cons_succ]
            refine wpAnyH_take (i := 11) (oi := _) (v := ?_) (List.getElem?_toArray.trans rfl) (by kernel_rfl) (by kernel_rfl) (by kernel_rfl) (fun _ _ _ h => h) (Or.inl ⟨by rfl, ?_⟩) (by assumption) ?_
            rotate_left
            · intro w hSw; (try dsimp only at hSw); go_simp <;> with_reducible rfl
            try simp only [Act.put, List.setIfInBounds_toArray, List.set_cons_zero, List.set_cons_succ]
            refine wpAnyH_take (i := 12) (oi := _) (v := ?_) (List.getElem?_toArray.trans rfl) (by kernel_rfl) (by kernel_rfl) (by kernel_rfl) (fun _ _ _ h => h) (Or.inl ⟨by rfl, ?_⟩) (by assumption) ?_
            rotate_left
            · intro w hSw; (try dsimp only at hSw); go_simp <;> with_reducible rfl
            try simp only [Act.put, List.setIfInBounds_toArray, List.set_cons_zero, List.set_cons_succ]
            refine wpAnyH_done (by kernel_rfl) ?_ _
            go_wp2_with fail
            go_roundw
            case rel => exact ⟨i + 1, joinL cur a b, true, by go_num, rfl, by omega, .inl (by omega), ⟨by rw [Hstep.out, Hab.out.1, Hab.out.2]; rfl⟩, ⟨Hch2.out.imp id (fun h => ⟨h.1, rfl⟩)⟩, h4, hC4⟩
            case measure => simp [intOf]; omega
          · have heq : rd cur a = rd cur b := Decidable.not_not.1 hne
            have Hd := Aside0.mk (decide_eq_false hne)
            have Hj := Aside0.mk (joinL_same cur a b heq)
            clear hne heq hcan
            go_wp2_with fail
            refine wp_region_held_drew (S := (fun W => W.cell? ad = some (.int .i64 (a : Int)) ∧ W.cell? (ad.add i) = some (.int .i64 (b : Int)) ∧ Chg F w W)) (by kernel_rfl) ?_ (fun hHeld => ?_)
            · (refine ⟨hc0 _ ?_, hci _ ?_, ?_⟩ <;> simp [*])
            refine wpAnyH_take (i := 0) (oi := _) (v := ?_) (List.getElem?_toArray.trans rfl) (by kernel_rfl) (by kernel_rfl) (by kernel_rfl) (fun _ _ _ h => h) (Or.inl ⟨by rfl, ?_⟩) (by assumption) ?_
            rotate_left
            · intro w hSw; (try dsimp only at hSw); go_simp <;> with_reducible rfl
            try simp only [Act.put, List.setIfInBounds_toArray, List.set_cons_zero, List.set_cons_succ]
            refine wpAnyH_take (i := 1) (oi := _) (v := ?_) (List.getElem?_toArray.trans rfl) (by kernel_rfl) (by kernel_rfl) (by kernel_rfl) (fun _ _ _ h => h) (Or.inl ⟨by rfl, ?_⟩) (by assumption) ?_
            rotate_left
            · intro w hSw; (try dsimp only at hSw); go_simp <;> with_reducible rfl
            try simp only [Act.put, List.setIfInBounds_toArray, List.set_cons_zero, List.set_cons_succ]
            refine wpAnyH_take (i := 2) (oi := _) (v := ?_) (List.getElem?_toArray.trans rfl) (by kernel_rfl) (by kernel_rfl) (by kernel_rfl) (fun _ _ _ h => h) (Or.inl ⟨by rfl, ?_⟩) (by assumption) ?_
            rotate_left
            · intro w hSw; (try dsimp only at hSw); go_simp <;> with_reducible rfl
            try simp only [Act.put, List.setIfInBounds_toArray, List.set_cons_zero, List.set_cons_succ]
            refine wpAnyH_take (i := 3) (oi := _) (v := ?_) (List.getElem?_toArray.trans rfl) (by kernel_rfl) (by kernel_rfl) (by kernel_rfl) (fun _ _ _ h => h) (Or.inl ⟨by rfl, ?_⟩) (by assumption) ?_
            rotate_left
            · intro w hSw; (try dsimp only at hSw); go_simp <;> with_reducible rfl
            try simp only [Act.put, List.setIfInBounds_toArray, List.set_cons_zero, List.set_cons_succ]
            refine wpAnyH_take (i := 4) (oi := _) (v := ?_) (List.getElem?_toArray.trans rfl) (by kernel_rfl) (by kernel_rfl) (by kernel_rfl) (fun _ _ _ h => h) (Or.inl ⟨by rfl, ?_⟩) (by assumption) ?_
            rotate_left
            · intro w hSw; (try dsimp only at hSw); go_simp <;> with_reducible rfl
            try simp only [Act.put, List.setIfInBounds_toArray, List.set_cons_zero, List.set_cons_succ]
            refine wpAnyH_take (i := 5) (oi := _) (v := ?_) (List.getElem?_toArray.trans rfl) (by kernel_rfl) (by kernel_rfl) (by kernel_rfl) (fun _ _ _ h => h) (Or.inl ⟨by rfl, ?_⟩) (by assumption) ?_
            rotate_left
            · intro w hSw; (try dsimp only at hSw); go_simp <;> with_reducible rfl
            try simp only [Act.put, List.setIfInBounds_toArray, List.set_cons_zero, List.set_cons_succ]
            refine wpAnyH_take (i := 6) (oi := _) (v := ?_) (List.getElem?_toArray.trans rfl) (by kernel_rfl) (by kernel_rfl) (by kernel_rfl) (fun _ _ _ h => h) (Or.inl ⟨by rfl, ?_⟩) (by assumption) ?_
            rotate_left
            · intro w hSw; (try dsimp only at hSw); go_simp <;> with_reducible rfl
            try simp only [Act.put, List.setIfInBounds_toArray, List.set_cons_zero, List.set_cons_succ]
            refine wpAnyH_take (i := 7) (oi := _) (v := ?_) (List.getElem?_toArray.trans rfl) (by kernel_rfl) (by kernel_rfl) (by kernel_rfl) (fun _ _ _ h => h) (Or.inl ⟨by rfl, ?_⟩) (by assumption) ?_
            rotate_left
            · intro w hSw; (try dsimp only at hSw); go_simp <;> with_reducible rfl
            try simp only [Act.put, List.setIfInBounds_toArray, List.set_cons_zero, List.set_cons_succ]
            refine wpAnyH_ready (rs := [8]) (by kernel_rfl) (by simp) ?_
            refine AllReadyH.cons (o := _) (List.getElem?_toArray.trans rfl) (fun K hK => ?_) AllReadyH.nil
            go_simp
            refine (pair_any p F vU vS vH cur a b _ (hU.below (below_drew (Below.refl _ _))) hma hmb hml).mono ?_
            rintro e w4 ⟨rfl, h4, h5⟩
            rw [Hd.out]
            have hC4 := (Gr.chg_drew hC).then_ h5 (fun k hk => .inl hk)
            go_wp2_with fail
            refine hK.out _ _ ?_ (fun hHeld => ?_)
            · (refine ⟨hc0 _ ?_, hci _ ?_, ?_⟩ <;> simp [*])
            clear hK K
            try simp only [Act.put, List.setIfInBounds_toArray, List.set_cons_zero, List.set_cons_succ]
            refine wpAnyH_take (i := 9) (oi := _) (v := ?_) (List.getElem?_toArray.trans rfl) (by kernel_rfl) (by kernel_rfl) (by kernel_rfl) (fun _ _ _ h => h) (Or.inl ⟨by rfl, ?_⟩) (by assumption) ?_
            rotate_left
            · intro w hSw; (try dsimp only at hSw); go_simp <;> with_reducible rfl
            try simp only [Act.put, List.setIfInBounds_toArray, List.set_cons_zero, List.set_cons_succ]
            refine wpAnyH_take (i := 10) (oi := _) (v := ?_) (List.getElem?_toArray.trans rfl) (by kernel_rfl) (by kernel_rfl) (by kernel_rfl) (fun _ _ _ h => h) (Or.inl ⟨by rfl, ?_⟩) (by assumption) ?_
            rotate_left
            · intro w hSw; (try dsimp only at hSw); go_simp <;> with_reducible rfl
            try simp only [Act.put, List.setIfInBounds_toArray, List.set_cons_zero, List.set_cons_succ]
            refine wpAnyH_take (i := 11) (oi := _) (v := ?_) (List.getElem?_toArray.trans rfl) (by kernel_rfl) (by kernel_rfl) (by kernel_rfl) (fun _ _ _ h => h) (Or.inl ⟨by rfl, ?_⟩) (by assumption) ?_
            rotate_left
            · intro w hSw; (try dsimp only at hSw); go_simp <;> with_reducible rfl
            try simp only [Act.put, List.setIfInBounds_toArray, List.set_cons_zero, List.set_cons_succ]
            refine wpAnyH_take (i := 12) (oi := _) (v := ?_) (List.getElem?_toArray.trans rfl) (by kernel_rfl) (by kernel_rfl) (by kernel_rfl) (fun _ _ _ h => h) (Or.inl ⟨by rfl, ?_⟩) (by assumption) ?_
            rotate_left
            · intro w hSw; (try dsimp only at hSw); go_simp <;> with_reducible rfl
            try simp only [Act.put, List.setIfInBounds_toArray, List.set_cons_zero, List.set_cons_succ]
            refine wpAnyH_done (by kernel_rfl) ?_ _
            go_wp2_with fail
            go_roundw
            case rel => exact ⟨i + 1, joinL cur a b, ch, by go_num, rfl, by omega, .inl (by omega), ⟨by rw [Hstep.out, Hab.out.1, Hab.out.2]; rfl⟩, ⟨by rw [Hj.out]; exact hch.out⟩, h4, hC4⟩
            case measure => simp [intOf]; omega
        · have hcur2 : out = cur := by
            rw [Hout.out, hcur.out]
            congr 1
            rw [List.take_of_length_le (by omega)]
          subst hcur2
          have hans : ch = ans := by
            rw [← Hans.out]
            rcases hch.out with ⟨e, e2⟩ | ⟨e, e2⟩
            · rw [e2, e]; simp
            · rw [e2]
              have : out ≠ hs := fun e3 => by rw [e3] at e; omega
              simp [this]
          subst hans
          have i1 : ¬ (i : Int) < (ns.length : Int) := by omega
          clear h hcur hch
          go_wp2
          go_ret
          exact ⟨rfl, hU, hC⟩
end Go.Proofs.YtkpadjhdneiniaaGreatDoor.Un
end
