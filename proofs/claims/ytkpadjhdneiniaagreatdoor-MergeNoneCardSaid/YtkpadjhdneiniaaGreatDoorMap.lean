/- Maps that the call makes, told by a function of the key; what a call changes, told by a set of blocks. Over any program. -/
import Derived.Test.YtkpadjhdneiniaaGreatDoorBase
import Derived.Maps.OwnSet
namespace Go.Proofs.YtkpadjhdneiniaaGreatDoor.Map
open Go.RowKit Go.Proofs.YtkpadjhdneiniaaGreatDoorW.PrintWords Go.Maps
open Go.WideElems (Fit)
set_option linter.unusedVariables false

/-! ### what a call has changed: of the old blocks those of F alone -/
structure Chg (F : Nat → Prop) (w w' : World) : Prop where
  os : w'.os = w.os
  tape : w'.tape = w.tape
  output : w'.output = w.output
  size : w.heap.size ≤ w'.heap.size
  block : ∀ k, k < w.heap.size → ¬ F k → w'.heap[k]? = w.heap[k]?
section
variable {F F' : Nat → Prop} {w w1 w2 : World}
theorem Chg.refl (F : Nat → Prop) (w : World) : Chg F w w := ⟨rfl, rfl, rfl, Nat.le_refl _, fun _ _ _ => rfl⟩
theorem Chg.of_below (h : Below w.heap.size w w1) (F : Nat → Prop) : Chg F w w1 := ⟨h.os, h.tape, h.output, h.size, fun k hk _ => h.block k hk⟩
theorem Chg.mono (h : Chg F w w1) (hF : ∀ k, k < w.heap.size → F k → F' k) : Chg F' w w1 := ⟨h.os, h.tape, h.output, h.size, fun k hk hn => h.block k hk (fun hf => hn (hF k hk hf))⟩
/-- one call behind the other: the second may change what the first might, and what is new -/
theorem Chg.then_ (h : Chg F w w1) (h2 : Chg F' w1 w2) (hF : ∀ k, F' k → F k ∨ w.heap.size ≤ k) : Chg F w w2 :=
  ⟨h2.os.trans h.os, h2.tape.trans h.tape, h2.output.trans h.output, Nat.le_trans h.size h2.size, fun k hk hn => (h2.block k (Nat.lt_of_lt_of_le hk h.size) (fun hf => (hF k hf).elim hn (fun h3 => by omega))).trans (h.block k hk hn)⟩
theorem Chg.below (h : Chg F w w1) {B : Nat} (hB : B ≤ w.heap.size) (hF : ∀ k, F k → B ≤ k) : Below B w w1 := ⟨h.os, h.tape, h.output, h.size, fun k hk => h.block k (by omega) (fun hf => by have := hF k hf; omega)⟩
theorem Chg.of_grown {row : Option Nat} (h : w.grownBy w1 row) (hr : ∀ k, row = some k → F k) : Chg F w w1 := ⟨h.os, h.tape, h.output, h.size, fun k hk hn => h.block k hk (fun e => hn (hr k e.symm))⟩
theorem Chg.setCell (w : World) {p : Addr} (hp : F p.block) (u : Value) : Chg F w (w.setCell p u) := ⟨rfl, rfl, rfl, by simp [World.setCell], fun k _ hn => Below.heap_setCell w p u k (fun e => hn (e ▸ hp))⟩
theorem Chg.alloc (w : World) (o : Obj) (F : Nat → Prop) : Chg F w (w.alloc o) := Chg.of_below (below_alloc (Below.refl _ _) o) F
theorem Chg.andBelow (h : Chg F w w1) (h2 : Below w1.heap.size w1 w2) : Chg F w w2 := h.then_ (Chg.of_below h2 (fun _ => False)) (fun _ hk => hk.elim)
theorem Chg.blk (h : Chg F w w1) {b : Nat} {o : Obj} (hb : w.heap[b]? = some o) (hn : ¬ F b) : w1.heap[b]? = some o := (h.block b (blk_lt hb) hn).trans hb
end

/-! ### maps -/
/-- an element as it stands -/
def tokR (v : Value) : Option (DataW Value × List MemPlace) := some (.held v, [])

open Classical in
/-- f, but at one key -/
noncomputable def upd (f : Lit → Option Value) (kl : Lit) (r : Option Value) : Lit → Option Value := fun x => if x = kl then r else f x
theorem upd_same (f : Lit → Option Value) (kl : Lit) (r : Option Value) : upd f kl r kl = r := by unfold upd; rw [if_pos rfl]
theorem upd_other (f : Lit → Option Value) {kl x : Lit} (h : x ≠ kl) (r : Option Value) : upd f kl r x = f x := by unfold upd; rw [if_neg h]

/-- Block b is a map of n entries that has f's elements. -/
structure MapP (P : Program) (k : TypeId) (w : World) (b : Nat) (f : Lit → Option Value) (n : Nat) : Prop where
  mk :: (out : ∃ D : DataW Value, w.ownsMap P k tokR b n D ∧ Maps.size D = n ∧ (∀ kl, Maps.has D kl = (f kl).isSome) ∧ ∀ kl v, f kl = some v → ∀ z, D.atKey kl z = .held v)

theorem ownsMap_exact {H : Type} {P : Program} {k : TypeId} {R : Value → Option (DataW H × List MemPlace)} {w : World} {b n : Nat} {D : DataW H} (h : w.ownsMap P k R b n D) : w.ownsMap P k R b (Maps.size D) D := by
  obtain ⟨es, clock, hb, F, hs, rfl⟩ := h
  exact ⟨es, clock, hb, F, by simp [Maps.size, length_sorted], rfl⟩

section
variable {P : Program} {k : TypeId} {w : World} {b n : Nat} {f : Lit → Option Value}
theorem MapP.made (w : World) (P : Program) (k : TypeId) : MapP P k (w.alloc (.map #[] 0)) w.heap.size (fun _ => none) 0 :=
  ⟨⟨.map [], World.ownsMap_made w P k tokR, rfl, fun kl => rfl, fun kl v h => by cases h⟩⟩
theorem MapP.lt (h : MapP P k w b f n) : b < w.heap.size := by obtain ⟨D, h1, _⟩ := h; exact h1.lt
theorem MapP.at_block (h : MapP P k w b f n) : ∃ es c, w.heap[b]? = some (.map es c) := by obtain ⟨D, ⟨es, c, hb, _⟩, _⟩ := h; exact ⟨es, c, hb⟩
theorem MapP.move (h : MapP P k w b f n) {w1 : World} (hb : w1.heap[b]? = w.heap[b]?) : MapP P k w1 b f n := by
  obtain ⟨D, ⟨es, clock, h1, h2⟩, h3⟩ := h
  exact ⟨D, ⟨es, clock, hb.trans h1, h2⟩, h3⟩
theorem MapP.chg (h : MapP P k w b f n) {w1 : World} {F : Nat → Prop} (hc : Chg F w w1) (hn : ¬ F b) : MapP P k w1 b f n := h.move (hc.block b h.lt hn)
theorem MapP.below (h : MapP P k w b f n) {w1 : World} (hb : Below w.heap.size w w1) : MapP P k w1 b f n := h.move (hb.block b h.lt)
theorem MapP.ext (h : MapP P k w b f n) {f' : Lit → Option Value} {n' : Nat} (hf : ∀ x, f' x = f x) (hn : n' = n) : MapP P k w b f' n' := by
  obtain rfl : f' = f := funext hf
  subst hn
  exact h
/-- m[k] -/
theorem MapP.look (h : MapP P k w b f n) (K : Keyed P k) {t e : TypeId} (ht : P.underlying t = some (.map k e)) {z : Value} (hz : (zeroValue e).run P w = .ok z w) {key : Value} {kl : Lit} (hkey : keyOf P k key = some kl) :
    (Instr.lookup t (.map (some b)) key false).run P w = .ok ((f kl).getD z) w := by
  obtain ⟨D, h1, _, h3, h4⟩ := h
  obtain ⟨v, ps, hrun, hv⟩ := h1.lookup K ht hz (zd := .held z) (zp := []) rfl hkey
  simp only [tokR, Option.some.injEq, Prod.mk.injEq] at hv
  have e1 : v = (f kl).getD z := by
    cases hf : f kl with
    | none =>
      have h5 := h3 kl
      rw [hf] at h5
      have h6 := hv.1.trans (Maps.atKey_of_not_has h5 (.held z))
      injection h6
    | some u =>
      have h6 := hv.1.trans (h4 kl u hf _)
      injection h6
  rw [← e1]; exact hrun
/-- v, ok := m[k] -/
theorem MapP.look_ok (h : MapP P k w b f n) (K : Keyed P k) {t e : TypeId} (ht : P.underlying t = some (.map k e)) {z : Value} (hz : (zeroValue e).run P w = .ok z w) {key : Value} {kl : Lit} (hkey : keyOf P k key = some kl) :
    (Instr.lookup t (.map (some b)) key true).run P w = .ok (.tuple #[(f kl).getD z, .bool (f kl).isSome]) w := by
  obtain ⟨D, h1, _, h3, h4⟩ := h
  obtain ⟨v, ps, hrun, hv⟩ := h1.look_ok K ht hz (zd := .held z) (zp := []) rfl hkey
  simp only [tokR, Option.some.injEq, Prod.mk.injEq] at hv
  have e1 : v = (f kl).getD z := by
    cases hf : f kl with
    | none =>
      have h5 := h3 kl
      rw [hf] at h5
      have h6 := hv.1.trans (Maps.atKey_of_not_has h5 (.held z))
      injection h6
    | some u =>
      have h6 := hv.1.trans (h4 kl u hf _)
      injection h6
  rw [h3 kl] at hrun
  rw [← e1]; exact hrun
/-- m[k] = v -/
theorem MapP.store (h : MapP P k w b f n) (K : Keyed P k) {t e : TypeId} (ht : P.underlying t = some (.map k e)) (hn : n < maxLen) {key val : Value} {kl : Lit} (hkey : keyOf P k key = some kl) :
    ∃ w', (Instr.mapUpdate t (.map (some b)) key val).run P w = .ok () w' ∧ MapP P k w' b (upd f kl (some val)) (if (f kl).isSome then n else n + 1) ∧ w.grownBy w' (some b) := by
  obtain ⟨D, h1, h2, h3, h4⟩ := h
  obtain ⟨w', hrun, r1, r2⟩ := h1.update K ht hn hkey (val := val) (d := .held val) (ps := []) rfl
  have hk := K.key hkey
  have hsz : Maps.size (D.put kl (.held val)) = if (f kl).isSome then n else n + 1 := by rw [Maps.size_put (h1.tidy K), h3, h2]
  refine ⟨w', hrun, ⟨D.put kl (.held val), hsz ▸ ownsMap_exact r1, hsz, fun x => ?_, fun x v hx z => ?_⟩, r2⟩
  · by_cases e1 : x = kl
    · subst e1; rw [upd_same]; exact Maps.has_put_same h1.isMap hk _
    · rw [upd_other _ e1, Maps.has_put_other e1]; exact h3 x
  · by_cases e1 : x = kl
    · subst e1; rw [upd_same] at hx; cases hx; exact Maps.atKey_put_same h1.isMap hk _ _
    · rw [upd_other _ e1] at hx; rw [Maps.atKey_put_other e1]; exact h4 x v hx z
/-- delete(m, k) -/
theorem MapP.drop (h : MapP P k w b f n) (K : Keyed P k) {t e : TypeId} (ht : P.underlying t = some (.map k e)) {key : Value} {kl : Lit} (hkey : keyOf P k key = some kl) (ty : TypeId) :
    ∃ w' n', (Builtin.delete_ #[t, k] ty #[.map (some b), key]).run P w = .ok (.tuple #[]) w' ∧ MapP P k w' b (upd f kl none) n' ∧ (n' + (if (f kl).isSome then 1 else 0) = n) ∧ w.grownBy w' (some b) := by
  obtain ⟨D, h1, h2, h3, h4⟩ := h
  obtain ⟨w', hrun, r1, r2⟩ := h1.drop K ht hkey ty
  have hsz := Maps.size_del (k := kl) (h1.tidy K)
  rw [h3, h2] at hsz
  refine ⟨w', Maps.size (D.del kl), hrun, ⟨D.del kl, ownsMap_exact r1, rfl, fun x => ?_, fun x v hx z => ?_⟩, hsz, r2.grown⟩
  · by_cases e1 : x = kl
    · subst e1; rw [upd_same]; exact Maps.has_del_same
    · rw [upd_other _ e1, Maps.has_del_other e1]; exact h3 x
  · by_cases e1 : x = kl
    · subst e1; rw [upd_same] at hx; cases hx
    · rw [upd_other _ e1] at hx; rw [Maps.atKey_del_other e1]; exact h4 x v hx z
theorem MapP.len (h : MapP P k w b f n) {t e : TypeId} (ht : P.underlying t = some (.map k e)) (ty : TypeId) : (Builtin.len_ #[t] ty #[.map (some b)]).run P w = .ok (.int .i64 n) w := by
  obtain ⟨D, h1, h2, _⟩ := h
  rw [← h2]; exact h1.len ht ty
end

/-! ### at the operation, for the walk -/
section
variable {P : Program} {w : World} {ops : Array Oper} {rest : List Oper} {o : Oper} {a : Act} {Q : Exit → Act → World → Prop}
theorem wp_store (hg : o.guard = none) (m x v : Operand) (t k e : TypeId) (hop : o.op = Op.mapUpdate t m x v) {b n : Nat} {f : Lit → Option Value} (hM : MapP P k w b f n) (K : Keyed P k) (ht : P.underlying t = some (.map k e)) (hn : n < maxLen)
    (hm : a.eval m = .map (some b)) {key val : Value} (hx : a.eval x = key) (hv : a.eval v = val) {kl : Lit} (hkey : keyOf P k key = some kl)
    (hK : ∀ w', MapP P k w' b (upd f kl (some val)) (if (f kl).isSome then n else n + 1) → w.grownBy w' (some b) → wpList P ops Q rest (a.put o.dst undef) w') : wpList P ops Q (o :: rest) a w := by
  refine wpList_plain hg fun K' hK' => ?_
  obtain ⟨w', hrun, r1, r2⟩ := hM.store (val := val) K ht hn hkey
  unfold Oper.wp
  simp [execOp, hop, hm, hx, hv, hrun, Result.andThen]
  exact hK' _ _ (hK w' r1 r2)
end
end Go.Proofs.YtkpadjhdneiniaaGreatDoor.Map
