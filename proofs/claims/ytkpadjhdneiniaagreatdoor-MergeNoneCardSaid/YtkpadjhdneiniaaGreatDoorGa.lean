/- Ga, Gb, Gc, Gd, Ge, Gf -/
import Derived.Test.YtkpadjhdneiniaaGreatDoorSe
import Derived.DeepKeys4
import Derived.Deep.RegionHeld3
import Derived.Laws.Rows
/- Ga: graph.Graph: the maps' keys. -/
section
namespace Go.Proofs.YtkpadjhdneiniaaGreatDoor.Gr
set_option linter.unusedVariables false
open Go.RowKit Go.Proofs.YtkpadjhdneiniaaGreatDoorW.PrintWords Go.Proofs.YtkpadjhdneiniaaGreatDoorW.PrintLast Go.Proofs.YtkpadjhdneiniaaGreatDoorW.PrintMore Go.Maps
open Go.Proofs.YtkpadjhdneiniaaGreatDoor.Base Go.Proofs.YtkpadjhdneiniaaGreatDoor.Map Go.Proofs.YtkpadjhdneiniaaGreatDoor.Sl Go.Proofs.YtkpadjhdneiniaaGreatDoor.Ow Go.Proofs.YtkpadjhdneiniaaGreatDoor.Se

/-- a whole number of an int -/
abbrev ok64 (x : Int) : Prop := (Lit.int .i64 x).wf = true
theorem ok64_of {x : Int} (h1 : -9223372036854775808 ≤ x) (h2 : x ≤ 9223372036854775807) : ok64 x := WalkArith.wf_i64 (by omega)

/-! the keys -/
theorem law3 : Keyed Tryz.prog 3 := int_keyed Tryz.underlying3
theorem intKey {a : Int} (h : ok64 a) : keyOf Tryz.prog 3 (.int .i64 a) = some (.int .i64 a) := keyOf_int_mk Tryz.underlying3 h
theorem laidOutI : laidOutB Tryz.prog = true := by kernel_rfl
theorem row84 : (84 : TypeId) < Tryz.prog.types.size := of_decide_eq_true (by kernel_rfl)
set_option maxRecDepth 100000 in
theorem wide54 : (match Tryz.prog.underlying 84 with | some (.array _ _) | some (.struct _) => true | _ => false) = true := by kernel_rfl
set_option maxRecDepth 100000 in
theorem law54 : Keyed Tryz.prog 84 := Keyed.of_law (deep_law_laid laidOutI (m := 3) (by omega) row84 (by kernel_rfl) wide54)
theorem keyType54 : Tryz.prog.keyType 84 = true := by kernel_rfl
theorem cells84 : Tryz.prog.cellsOf 84 = 2 := by kernel_rfl
theorem cells3 : Tryz.prog.cellsOf 3 = 1 := by kernel_rfl
def wayV (a f : Int) : Value := .agg #[.int .i64 a, .int .i64 f]
theorem size2 : ∃ m, Tryz.prog.types.size + 1 = m + 2 := ⟨Tryz.prog.types.size - 1, by have h : (84 : Nat) < Tryz.prog.types.size := row84; omega⟩
theorem way_key {a f : Int} (ha : ok64 a) (hf : ok64 f) : ∃ kl, keyOf Tryz.prog 84 (wayV a f) = some kl := by
  unfold wayV
  obtain ⟨m, hm⟩ := size2
  unfold keyOf
  simp only [Tryz.underlying84]
  rw [if_pos (by simp [keyType54, Value.formed, Tryz.underlying84, cells84]), hm]
  refine Option.isSome_iff_exists.1 ?_
  rw [Option.isSome_map]
  unfold Program.keyLits
  simp only [Tryz.underlying84, Value.cells]
  rw [if_pos (by simp [cells84])]
  rw [Option.isSome_map]
  simp only [List.mapM_cons, List.mapM_nil, cells3]
  unfold Program.keyLits
  simp only [Tryz.underlying3, cells3]
  simp [ha, hf]
open Classical in
noncomputable def wayL (a f : Int) : Lit := (keyOf Tryz.prog 84 (wayV a f)).getD (.bool false)
theorem wayL_key {a f : Int} (ha : ok64 a) (hf : ok64 f) : keyOf Tryz.prog 84 (wayV a f) = some (wayL a f) := by
  obtain ⟨kl, hk⟩ := way_key ha hf
  unfold wayL; rw [hk]; rfl
theorem wayL_inj {a f a' f' : Int} (ha : ok64 a) (hf : ok64 f) (ha' : ok64 a') (hf' : ok64 f') (h : wayL a f = wayL a' f') : a = a' ∧ f = f' := by
  have kb := wayL_key ha' hf'
  rw [← h] at kb
  have e := law54.inj (wayL_key ha hf) kb
  unfold wayV at e
  simp only [Value.agg.injEq, Array.mk.injEq, List.cons.injEq, Value.int.injEq, true_and, and_true] at e
  exact e

end Go.Proofs.YtkpadjhdneiniaaGreatDoor.Gr
end

/- Gb: graph.Graph: how it lies: labels of blocks, what is kept. -/
section
namespace Go.Proofs.YtkpadjhdneiniaaGreatDoor.Gr
set_option linter.unusedVariables false
open Go.RowKit Go.Proofs.YtkpadjhdneiniaaGreatDoorW.PrintWords Go.Proofs.YtkpadjhdneiniaaGreatDoorW.PrintLast Go.Proofs.YtkpadjhdneiniaaGreatDoorW.PrintMore Go.Maps
open Go.Proofs.YtkpadjhdneiniaaGreatDoor.Base Go.Proofs.YtkpadjhdneiniaaGreatDoor.Map Go.Proofs.YtkpadjhdneiniaaGreatDoor.Sl Go.Proofs.YtkpadjhdneiniaaGreatDoor.Ow Go.Proofs.YtkpadjhdneiniaaGreatDoor.Se

/-! labels -/
inductive Tag | base | nx (a f : Int) | by_ (a : Int)
/-- blocks lo .. hi bear a label -/
def relab (lab : Nat → Option Tag) (lo hi : Nat) (t : Tag) : Nat → Option Tag := fun k => if lo ≤ k ∧ k < hi then some t else lab k
def on (lab : Nat → Option Tag) (t : Tag) : Nat → Prop := fun k => lab k = some t

/-- The graph in block p: its types; K: which ways there are; N: where they lead; B: each object's fields; its maps' blocks and what they hold. -/
structure GXc (w : World) (lab : Nat → Option Tag) (p : Nat) (T : List ByteArray) (K : Int → Int → Prop) (N : Int → Int → List Int) (B : Int → List Int) (M : Nat) (vT : Value) (mn mb : Nat) (fn fb : Lit → Option Value) (cn cb : Nat) : Prop where
  blk : w.heap[p]? = some (.cells #[vT, .map (some mn), .map (some mb)] 80 (0, 0))
  types : Kd.R Kd.string 9 w 0 (on lab .base) vT T
  next : MapP Tryz.prog 84 w mn fn cn
  by_ : MapP Tryz.prog 3 w mb fb cb
  base : on lab .base p ∧ on lab .base mn ∧ on lab .base mb ∧ mn ≠ mb
  lt : ∀ k, lab k ≠ none → k < w.heap.size
  ways : ∀ a f, ok64 a → ok64 f → (K a f → ∃ b, fn (wayL a f) = some (.pointer (some ⟨b, 0, none⟩)) ∧ SetF w (on lab (.nx a f)) b (N a f)) ∧ (¬ K a f → fn (wayL a f) = none)
  fields : ∀ a, ok64 a → Srt (B a) ∧ (B a ≠ [] → ∃ v, fb (.int .i64 a) = some v ∧ OwF w (on lab (.by_ a)) v (B a)) ∧ (B a = [] → fb (.int .i64 a) = none)
  tail : (∀ kl, (fb kl).isSome → ∃ a, ok64 a ∧ kl = .int .i64 a) ∧ cn ≤ M ∧ cb ≤ M
structure GX (w : World) (lab : Nat → Option Tag) (p : Nat) (T : List ByteArray) (K : Int → Int → Prop) (N : Int → Int → List Int) (B : Int → List Int) (M : Nat) : Prop where
  mk :: (out : ∃ (vT : Value) (mn mb : Nat) (fn fb : Lit → Option Value) (cn cb : Nat), GXc w lab p T K N B M vT mn mb fn fb cn cb)
section
variable {w w1 : World} {lab : Nat → Option Tag} {p : Nat} {T : List ByteArray} {K : Int → Int → Prop} {N : Int → Int → List Int} {B : Int → List Int} {M : Nat}
theorem GX.chg {G : Nat → Prop} (h : GX w lab p T K N B M) (hC : Chg G w w1) (hd : ∀ k, lab k ≠ none → ¬ G k) : GX w1 lab p T K N B M := by
  obtain ⟨vT, mn, mb, fn, fb, cn, cb, h1, h2, h3, h4, h5, h6, h7, h8, h9⟩ := h
  have hon : ∀ t k, on lab t k → ¬ G k := fun t k hk => hd k (fun e => by rw [on, e] at hk; cases hk)
  exact ⟨vT, mn, mb, fn, fb, cn, cb, hC.blk h1 (hon _ _ h5.1), Kd.R_step h2 (fun k hk hlt => hC.block k hlt (hon _ k hk)), h3.chg hC (hon _ _ h5.2.1), h4.chg hC (hon _ _ h5.2.2.1), h5,
    fun k hk => Nat.lt_of_lt_of_le (h6 k hk) hC.size, fun a f ha hf => ⟨fun hK => by
      obtain ⟨b, e1, e2⟩ := (h7 a f ha hf).1 hK
      exact ⟨b, e1, e2.chg hC (hon _)⟩, (h7 a f ha hf).2⟩, fun a ha => ⟨(h8 a ha).1, fun hB => by
      obtain ⟨v, e1, e2⟩ := (h8 a ha).2.1 hB
      exact ⟨v, e1, e2.chg hC (hon _)⟩, (h8 a ha).2.2⟩, h9⟩
theorem GX.below (h : GX w lab p T K N B M) (hb : Below w.heap.size w w1) : GX w1 lab p T K N B M := h.chg (Chg.of_below hb (fun _ => False)) (fun _ _ h => h)
theorem GX.lt (h : GX w lab p T K N B M) : ∀ k, lab k ≠ none → k < w.heap.size := by
  obtain ⟨vT, mn, mb, fn, fb, cn, cb, h1, h2, h3, h4, h5, h6, _⟩ := h; exact h6
theorem GX.ext {K' : Int → Int → Prop} {N' : Int → Int → List Int} {B' : Int → List Int} (h : GX w lab p T K N B M) (hK : ∀ a f, K' a f ↔ K a f) (hN : ∀ a f, K a f → N' a f = N a f) (hB : ∀ a, B' a = B a) : GX w lab p T K' N' B' M := by
  obtain rfl : B' = B := funext hB
  obtain ⟨vT, mn, mb, fn, fb, cn, cb, h1, h2, h3, h4, h5, h6, h7, h8, h9⟩ := h
  exact ⟨vT, mn, mb, fn, fb, cn, cb, h1, h2, h3, h4, h5, h6, fun a f ha hf => ⟨fun hk => by rw [hN a f ((hK a f).1 hk)]; exact (h7 a f ha hf).1 ((hK a f).1 hk), fun hk => (h7 a f ha hf).2 (fun h => hk ((hK a f).2 h))⟩, h8, h9⟩
end
/-- relabelled: what bore a label still does -/
theorem relab_on {lab : Nat → Option Tag} {w w1 : World} {t t' : Tag} (h : ∀ k, lab k ≠ none → k < w.heap.size) {k : Nat} (hk : on lab t' k) : on (relab lab w.heap.size w1.heap.size t) t' k := by
  unfold on relab
  have := h k (fun e => by rw [on, e] at hk; cases hk)
  rw [if_neg (by omega)]; exact hk
theorem relab_new {lab : Nat → Option Tag} {lo hi : Nat} {t : Tag} {k : Nat} (h : lo ≤ k ∧ k < hi) : on (relab lab lo hi t) t k := if_pos h
theorem relab_ext {lab : Nat → Option Tag} {w w1 : World} {t : Tag} (h : ∀ k, lab k ≠ none → k < w.heap.size) {k : Nat} (hk : ext (on lab t) w w1 k) : on (relab lab w.heap.size w1.heap.size t) t k := hk.elim (relab_on h) relab_new
theorem relab_lt {lab : Nat → Option Tag} {w w1 : World} {t : Tag} (h : ∀ k, lab k ≠ none → k < w.heap.size) (hs : w.heap.size ≤ w1.heap.size) : ∀ k, relab lab w.heap.size w1.heap.size t k ≠ none → k < w1.heap.size := fun k hk => by
  unfold relab at hk
  split at hk
  · next h => exact h.2
  · have := h k hk; omega
theorem relab_or {lab : Nat → Option Tag} {lo hi : Nat} {t : Tag} {k : Nat} (hk : relab lab lo hi t k ≠ none) : lab k ≠ none ∨ (lo ≤ k ∧ k < hi) := by
  unfold relab at hk
  split at hk
  · next h => exact .inr h
  · exact .inl hk
theorem on_ne {lab : Nat → Option Tag} {t t' : Tag} (h : t ≠ t') {k : Nat} (hk : on lab t k) : ¬ on lab t' k := fun hk' => h (by unfold on at hk hk'; rw [hk] at hk'; cases hk'; rfl)
theorem on_some {lab : Nat → Option Tag} {t : Tag} {k : Nat} (hk : on lab t k) : lab k ≠ none := fun e => by rw [on, e] at hk; cases hk
open Classical in
/-- a way's objects, turned -/
noncomputable def updN (N : Int → Int → List Int) (a f : Int) (l : List Int) : Int → Int → List Int := fun a' f' => if a' = a ∧ f' = f then l else N a' f'
open Classical in
noncomputable def updB (B : Int → List Int) (a : Int) (l : List Int) : Int → List Int := fun a' => if a' = a then l else B a'
/-- what a map has at a key is told by the world -/
theorem MapP_one {P : Program} {k : TypeId} {w : World} {b n n' : Nat} {f f' : Lit → Option Value} (h : MapP P k w b f n) (h' : MapP P k w b f' n') (K : Keyed P k) {t e : TypeId} (ht : P.underlying t = some (.map k e)) {z : Value} (hz : (zeroValue e).run P w = .ok z w) {key : Value} {kl : Lit} (hkey : keyOf P k key = some kl) {v : Value} (hv : f kl = some v) : f' kl = some v := by
  have l1 := h.look_ok K ht hz hkey
  have l2 := h'.look_ok K ht hz hkey
  rw [l1] at l2
  injection l2 with l3 _
  simp only [Value.tuple.injEq, Array.mk.injEq, List.cons.injEq, Value.bool.injEq, and_true] at l3
  rw [hv] at l3
  cases h2 : f' kl with
  | none => rw [h2] at l3; simp at l3
  | some u =>
    rw [h2] at l3
    have := l3.1
    simp only [Option.getD_some] at this
    rw [this]
theorem zero55 (w : World) : (zeroValue 123).run Tryz.prog w = .ok (.pointer none) w := by kernel_rfl
/-- the set of a way -/
def WayAt (w : World) (p : Nat) (a f : Int) (b : Nat) : Prop := ∃ (vT : Value) (mn mb : Nat) (fn : Lit → Option Value) (cn : Nat), w.heap[p]? = some (.cells #[vT, .map (some mn), .map (some mb)] 80 (0, 0)) ∧ MapP Tryz.prog 84 w mn fn cn ∧ fn (wayL a f) = some (.pointer (some ⟨b, 0, none⟩))
/-- a way's set has been turned -/
theorem GX.set {w w1 : World} {lab : Nat → Option Tag} {p : Nat} {T : List ByteArray} {K : Int → Int → Prop} {N : Int → Int → List Int} {B : Int → List Int} {M : Nat} {a f : Int} {b : Nat} {l : List Int} (h : GX w lab p T K N B M) (hK : K a f)
    (ha : ok64 a) (hf : ok64 f) (hb : WayAt w p a f b)
    (hS : SetF w1 (Ow.ext (on lab (.nx a f)) w w1) b l) (hC : Chg (on lab (.nx a f)) w w1) :
    GX w1 (relab lab w.heap.size w1.heap.size (.nx a f)) p T K (updN N a f l) B M := by
  have hL := h.lt
  obtain ⟨vT, mn, mb, fn, fb, cn, cb, h1, h2, h3, h4, h5, h6, h7, h8, h9⟩ := h
  have hne : ∀ t, t ≠ Tag.nx a f → ∀ k, on lab t k → ¬ on lab (.nx a f) k := fun t ht k hk => on_ne ht hk
  have nb : Tag.base ≠ Tag.nx a f := fun e => by cases e
  have hfn : fn (wayL a f) = some (.pointer (some ⟨b, 0, none⟩)) := by
    obtain ⟨vT', mn', mb', fn', cn', g1, g2, g3⟩ := hb
    rw [h1] at g1
    obtain ⟨rfl, rfl, rfl⟩ : vT = vT' ∧ mn = mn' ∧ mb = mb' := by cases g1; exact ⟨rfl, rfl, rfl⟩
    exact MapP_one g2 h3 law54 Tryz.underlying77 (zero55 w) (wayL_key ha hf) g3
  refine ⟨vT, mn, mb, fn, fb, cn, cb, hC.blk h1 (hne _ nb _ h5.1), Kd.R_mono (Kd.R_step h2 (fun k hk hlt => hC.block k hlt (hne _ nb k hk))) (fun k hk => relab_on hL hk), h3.chg hC (hne _ nb _ h5.2.1), h4.chg hC (hne _ nb _ h5.2.2.1),
    ⟨relab_on hL h5.1, relab_on hL h5.2.1, relab_on hL h5.2.2.1, h5.2.2.2⟩, relab_lt hL hC.size, fun a' f' ha hf => ⟨fun hK' => ?_, (h7 a' f' ha hf).2⟩, fun a' ha => ⟨(h8 a' ha).1, fun hB => ?_, (h8 a' ha).2.2⟩, h9⟩
  · by_cases e : a' = a ∧ f' = f
    · obtain ⟨rfl, rfl⟩ := e
      refine ⟨b, hfn, ?_⟩
      unfold updN; rw [if_pos ⟨rfl, rfl⟩]
      exact hS.mono (fun k hk => relab_ext hL hk)
    · obtain ⟨b', e1, e2⟩ := (h7 a' f' ha hf).1 hK'
      unfold updN; rw [if_neg e]
      refine ⟨b', e1, (e2.chg hC (hne _ (fun h => e (by cases h; exact ⟨rfl, rfl⟩)))).mono (fun k hk => relab_on hL hk)⟩
  · obtain ⟨v, e1, e2⟩ := (h8 a' ha).2.1 hB
    exact ⟨v, e1, (e2.chg hC (hne _ (fun h => by cases h))).mono (fun k hk => relab_on hL hk)⟩
end Go.Proofs.YtkpadjhdneiniaaGreatDoor.Gr
end

/- Gc: graph.put: of a way that there is. -/
section
namespace Go.Proofs.YtkpadjhdneiniaaGreatDoor.Gr
set_option linter.unusedVariables false
open Go.RowKit Go.Proofs.YtkpadjhdneiniaaGreatDoorW.PrintWords Go.Proofs.YtkpadjhdneiniaaGreatDoorW.PrintLast Go.Proofs.YtkpadjhdneiniaaGreatDoorW.PrintMore Go.Maps
open Go.Proofs.YtkpadjhdneiniaaGreatDoor.Base Go.Proofs.YtkpadjhdneiniaaGreatDoor.Map Go.Proofs.YtkpadjhdneiniaaGreatDoor.Sl Go.Proofs.YtkpadjhdneiniaaGreatDoor.Ow Go.Proofs.YtkpadjhdneiniaaGreatDoor.Se

theorem zero26 (w : World) : (zeroValue 26).run Tryz.prog w = .ok (.slice none 0 0) w := by kernel_rfl
/-- a graph that a call has turned -/
def PutSaid (w : World) (lab : Nat → Option Tag) (p : Nat) (T : List ByteArray) (K : Int → Int → Prop) (N : Int → Int → List Int) (B : Int → List Int) (M : Nat) (e : Ending) (w' : World) : Prop :=
  e = .returned (.tuple #[]) ∧ ∃ lab', GX w' lab' p T K N B M ∧ (∀ k, lab' k ≠ none → lab k ≠ none ∨ (w.heap.size ≤ k ∧ k < w'.heap.size)) ∧ Chg (fun k => lab k ≠ none) w w'
theorem put_end {w W W2 w2 : World} {lab : Nat → Option Tag} {p : Nat} {T : List ByteArray} {K : Int → Int → Prop} {N : Int → Int → List Int} {B : Int → List Int} {M : Nat} {a f z : Int} {b : Nat} (hal : Below w.heap.size w W) (h : GX W lab p T K N B M) (hb : WayAt W p a f b) (ha : ok64 a) (hf : ok64 f) (hK : K a f)
    (hB2 : Below W.heap.size W W2) (hS : SetF w2 (ext (on lab (.nx a f)) W2 w2) b (addL (N a f) z)) (hC : Chg (on lab (.nx a f)) W2 w2) : PutSaid w lab p T K (updN N a f (addL (N a f) z)) B M (.returned (.tuple #[])) w2 := by
  have h2 := h.below hB2
  have hb2 : WayAt W2 p a f b := by
    obtain ⟨vT, mn, mb, fn, cn, g1, g2, g3⟩ := hb
    exact ⟨vT, mn, mb, fn, cn, Ow.blk_below g1 hB2, g2.below hB2, g3⟩
  have s1 := hal.size
  have s2 := hB2.size
  refine ⟨rfl, _, GX.set h2 hK ha hf hb2 hS hC, fun k hk => (relab_or hk).elim .inl (fun h => .inr ⟨by omega, h.2⟩), ?_⟩
  exact ((Chg.of_below hal _).andBelow hB2).then_ hC (fun k hk => .inl (on_some hk))
set_option maxHeartbeats 4000000 in
set_option maxRecDepth 100000 in
theorem put_old (p : Nat) (lab : Nat → Option Tag) (T : List ByteArray) (K : Int → Int → Prop) (N : Int → Int → List Int) (B : Int → List Int) (M : Nat) (a f z : Int) (w : World) (h : GX w lab p T K N B M) (ha : ok64 a) (hf : ok64 f) (hK : K a f) :
    Calls Tryz.prog 61 #[.pointer (some ⟨p, 0, none⟩), .agg #[.int .i64 a, .int .i64 f], .int .i64 z] w (PutSaid w lab p T K (updN N a f (addL (N a f) z)) B M) := by
  have hal : Below w.heap.size w (w.alloc (.cells #[.int .i64 a, .int .i64 f] 84)) := below_alloc (Below.refl _ _) _
  have H := Aside0.mk (h.below hal)
  have Hal := Aside0.mk hal
  have Ha := Aside0.mk (And.intro ha (And.intro hf hK))
  obtain ⟨vT, mn, mb, fn, fb, cn, cb, h1, h2, h3, h4, h5, h6, h7, h8, h9⟩ := h.below hal
  obtain ⟨b, e1, e2⟩ := (h7 a f ha hf).1 hK
  have hr : (fn (wayL a f)).getD (.pointer none) = .pointer (some ⟨b, 0, none⟩) := by rw [e1]; rfl
  have ho : (fn (wayL a f)).isSome = true := by rw [e1]; rfl
  have hkey := wayL_key ha hf
  have hrun : ∀ n, (Instr.lookup 77 (.map (some mn)) (.agg #[.int .i64 a, .int .i64 f]) true).run Tryz.prog ((w.alloc (.cells #[.int .i64 a, .int .i64 f] 84)).drewN n) = .ok (.tuple #[.pointer (some ⟨b, 0, none⟩), .bool true]) ((w.alloc (.cells #[.int .i64 a, .int .i64 f] 84)).drewN n) := fun n => by
    have := (h3.below (pw_below_drewN (Below.refl _ _) n)).look_ok law54 Tryz.underlying77 (zero55 _) hkey
    rw [hr, ho] at this
    exact this
  have c1 : (w.alloc (.cells #[.int .i64 a, .int .i64 f] 84)).cell? ⟨p, 1, none⟩ = some (.map (some mn)) := blk_cell h1 1
  have HS := Aside0.mk e2
  have Hfn : Aside0 (WayAt (w.alloc (.cells #[.int .i64 a, .int .i64 f] 84)) p a f b) := ⟨vT, mn, mb, fn, cn, h1, h3, e1⟩
  clear h h1 h2 h3 h4 h5 h6 h7 h8 h9 e1 e2 hr ho hkey ha hf hK hal
  go_enter Tryz.func61, Tryz.ntmps61
  go_wp2_with fail
  go_quiet (fail)
  go_wp2_with fail
  refine (add_any b _ (N a f) z _ (HS.out.below (pw_below_drewN (Below.refl _ _) _))).mono ?_
  rintro e w2 ⟨rfl, r1, r2⟩
  have HP := Aside0.mk (put_end Hal.out H.out Hfn.out Ha.out.1 Ha.out.2.1 Ha.out.2.2 (pw_below_drewN (Below.refl (w.alloc (.cells #[.int .i64 a, .int .i64 f] 84)).heap.size _) _) r1 r2)
  clear r1 r2
  go_wp2_with fail
  go_end0
  exact HP.out
end Go.Proofs.YtkpadjhdneiniaaGreatDoor.Gr
end

/- Gd: graph.put: of a way that is new. -/
section
namespace Go.Proofs.YtkpadjhdneiniaaGreatDoor.Gr
set_option linter.unusedVariables false
open Go.RowKit Go.Proofs.YtkpadjhdneiniaaGreatDoorW.PrintWords Go.Proofs.YtkpadjhdneiniaaGreatDoorW.PrintLast Go.Proofs.YtkpadjhdneiniaaGreatDoorW.PrintMore Go.Maps
open Go.Proofs.YtkpadjhdneiniaaGreatDoor.Base Go.Proofs.YtkpadjhdneiniaaGreatDoor.Map Go.Proofs.YtkpadjhdneiniaaGreatDoor.Sl Go.Proofs.YtkpadjhdneiniaaGreatDoor.Ow Go.Proofs.YtkpadjhdneiniaaGreatDoor.Se

theorem chg_cell {F : Nat → Prop} {w w1 : World} {b o : Nat} {v : Value} (h : Chg F w w1) (hn : ¬ F b) (hc : w.cell? ⟨b, o, none⟩ = some v) : w1.cell? ⟨b, o, none⟩ = some v := by
  have hl := World.block_lt_of_cell? w _ hc
  have e := h.block b hl hn
  unfold World.cell? at hc ⊢
  rw [e]; exact hc
@[simp] theorem chg_drew {F : Nat → Prop} {w w1 : World} (h : Chg F w w1) : Chg F w w1.drew := h.andBelow (below_drew (Below.refl _ _))
@[simp] theorem chg_drewN {F : Nat → Prop} {w w1 : World} (h : Chg F w w1) (n : Nat) : Chg F w (w1.drewN n) := h.andBelow (pw_below_drewN (Below.refl _ _) n)
@[simp] theorem chg_alloc {F : Nat → Prop} {w w1 : World} (h : Chg F w w1) (o : Obj) : Chg F w (w1.alloc o) := h.andBelow (below_alloc (Below.refl _ _) o)
/-- BinarySearch: only draws -/
theorem bs_q (v : Value) (l : List Int) (x : Int) (w : World) (h : RdV w v l) (hs : Srt l) (hl : l.length ≤ 1000000000) :
    Calls Tryz.prog 82 #[v, .int .i64 x] w fun e w' => e = .returned (.tuple #[.int .i64 (below l x : Nat), .bool (decide (x ∈ l))]) ∧ ∃ q, w' = w.drewN q := by
  rcases Nat.eq_zero_or_pos l.length with h0 | h0
  · obtain rfl := List.eq_nil_of_length_eq_zero h0
    obtain ⟨A, c, rfl, hc, hr⟩ := h
    refine (Tryz.slices_BinarySearch_int_empty A c x w).mono ?_
    rintro e w' ⟨rfl, rfl⟩
    exact ⟨by simp [below], 0, rfl⟩
  · obtain ⟨b, off, c, rfl, hc, hcell⟩ := RdV.cells h h0
    refine (Tryz.slices_BinarySearch_int b off l.length c l x w (Nat.le_refl _) (by omega) hcell (by rw [List.take_of_length_le (Nat.le_refl _)]; exact srt_le hs)).mono ?_
    rintro e w' ⟨rfl, q, rfl⟩
    rw [List.take_of_length_le (Nat.le_refl _)]
    have : l.contains x = decide (x ∈ l) := by rw [Bool.eq_iff_iff]; simp
    rw [this]
    exact ⟨rfl, q, rfl⟩
/-- put, of a way that is new: what its calls leave -/
theorem put_new_end {w W w2 w3 w4 wa w5 w6 w7 : World} {lab : Nat → Option Tag} {p : Nat} {T : List ByteArray} {K : Int → Int → Prop} {N : Int → Int → List Int} {B : Int → List Int} {M : Nat} {vT : Value} {mn mb : Nat} {fn fb : Lit → Option Value} {cn cb cn' cb' : Nat} {a f z : Int} {b : Nat} {v' : Value}
    (hW : Below w.heap.size w W) (hG : GXc W lab p T K N B M vT mn mb fn fb cn cb) (ha : ok64 a) (hf : ok64 f) (hK : ¬ K a f)
    (h2 : Below W.heap.size W w2) (hS2 : SetF w2 (new W w2) b []) (h3 : Chg (fun k => k = mn) w2 w3) (hM3 : MapP Tryz.prog 84 w3 mn (upd fn (wayL a f) (some (.pointer (some ⟨b, 0, none⟩)))) cn') (hcn : cn' ≤ cn + 1)
    (h4 : Below w3.heap.size w3 w4) (ha4 : Below w4.heap.size w4 wa) (hO5 : OwF w5 (ext (on lab (.by_ a)) wa w5) v' (ins (B a) f)) (h5 : Chg (on lab (.by_ a)) wa w5)
    (hM6 : MapP Tryz.prog 3 w6 mb (upd fb (.int .i64 a) (some v')) cb') (hcb : cb' ≤ cb + 1) (h6 : w5.grownBy w6 (some mb))
    (hS7 : SetF w7 (ext (new W w2) w6 w7) b (addL [] z)) (h7 : Chg (new W w2) w6 w7) :
    PutSaid w lab p T (fun a' f' => K a' f' ∨ (a' = a ∧ f' = f)) (updN N a f (addL [] z)) (updB B a (ins (B a) f)) (M + 1) (.returned (.tuple #[])) w7 := by
  have h6' : Chg (fun k => k = mb) w5 w6 := Chg.of_grown h6 (fun k hk => by cases hk; rfl)
  have s2 := h2.size; have s3 := h3.size; have s4 := h4.size; have s5 := ha4.size; have s6 := h5.size; have s7 := h6'.size; have s8 := h7.size; have sW := hW.size
  have hL := hG.lt
  have hbase := hG.base
  -- the labels at the end
  let lab7 : Nat → Option Tag := fun k => if W.heap.size ≤ k ∧ k < w2.heap.size then some (.nx a f) else if wa.heap.size ≤ k ∧ k < w5.heap.size then some (.by_ a) else if w6.heap.size ≤ k ∧ k < w7.heap.size then some (.nx a f) else lab k
  have l1 : ∀ k, k < W.heap.size → lab7 k = lab k := fun k hk => by
    show (if _ then _ else _) = _
    rw [if_neg (by omega), if_neg (by omega), if_neg (by omega)]
  have l2 : ∀ t k, on lab t k → on lab7 t k := fun t k hk => by
    have h := hL k (on_some hk)
    unfold on at hk ⊢
    rw [l1 k h]; exact hk
  have l3 : ∀ k, W.heap.size ≤ k ∧ k < w2.heap.size → on lab7 (.nx a f) k := fun k hk => if_pos hk
  have l4 : ∀ k, wa.heap.size ≤ k ∧ k < w5.heap.size → on lab7 (.by_ a) k := fun k hk => by
    show (if _ then _ else _) = _
    rw [if_neg (by omega), if_pos hk]
  have l5 : ∀ k, w6.heap.size ≤ k ∧ k < w7.heap.size → on lab7 (.nx a f) k := fun k hk => by
    show (if _ then _ else _) = _
    rw [if_neg (by omega), if_neg (by omega), if_pos hk]
  have l6 : ∀ k, lab7 k ≠ none → lab k ≠ none ∨ (W.heap.size ≤ k ∧ k < w7.heap.size) := fun k hk => by
    rcases Nat.lt_or_ge k W.heap.size with h | h
    · rw [l1 k h] at hk; exact .inl hk
    · by_cases e : lab7 k = lab k
      · rw [e] at hk; exact .inl hk
      · refine .inr ⟨h, Nat.lt_of_not_ge fun hge => e ?_⟩
        show (if _ then _ else _) = _
        rw [if_neg (by omega), if_neg (by omega), if_neg (by omega)]
  -- all that has changed of what is old: the two maps, the object's row
  have hC6 : Chg (fun k => k = mn ∨ on lab (.by_ a) k ∨ k = mb) W w6 :=
    (((((Chg.of_below h2 _).then_ h3 (fun k hk => .inl (.inl hk))).andBelow h4).andBelow ha4).then_ h5 (fun k hk => .inl (.inr (.inl hk)))).then_ h6' (fun k hk => .inl (.inr (.inr hk)))
  have hC7 : Chg (fun k => k = mn ∨ on lab (.by_ a) k ∨ k = mb) W w7 := hC6.then_ h7 (fun k hk => .inr hk.1)
  have kept : ∀ t, t ≠ .base → t ≠ .by_ a → ∀ k, on lab t k → ¬ (k = mn ∨ on lab (.by_ a) k ∨ k = mb) := fun t t1 t2 k hk h => by
    rcases h with rfl | h | rfl
    · exact on_ne t1 hk hbase.2.1
    · exact on_ne t2 hk h
    · exact on_ne t1 hk hbase.2.2.1
  obtain ⟨es1, ck1, hmn⟩ := hG.next.at_block
  obtain ⟨es2, ck2, hmb⟩ := hG.by_.at_block
  have pmn : p ≠ mn := fun e => by have := hG.blk; rw [e, hmn] at this; cases this
  have pmb : p ≠ mb := fun e => by have := hG.blk; rw [e, hmb] at this; cases this
  have nbb : ∀ k, on lab .base k → ¬ on lab (.by_ a) k := fun k hk => on_ne (fun h => by cases h) hk
  have hp7 : ¬ (p = mn ∨ on lab (.by_ a) p ∨ p = mb) := fun h => h.elim pmn (fun h => h.elim (nbb p hbase.1) pmb)
  have newlt : ∀ k, new W w2 k → ¬ k < W.heap.size := fun k hk h => by have := hk.1; omega
  have hM37 : MapP Tryz.prog 84 w7 mn (upd fn (wayL a f) (some (.pointer (some ⟨b, 0, none⟩)))) cn' := by
    have hmlt : mn < W.heap.size := hG.next.lt
    exact ((((hM3.below h4).below ha4).chg h5 (nbb mn hbase.2.1)).chg h6' hbase.2.2.2).chg h7 (fun h => newlt mn h hmlt)
  have hM67 : MapP Tryz.prog 3 w7 mb (upd fb (.int .i64 a) (some v')) cb' := hM6.chg h7 (fun h => newlt mb h hG.by_.lt)
  have hO7 : OwF w7 (on lab7 (.by_ a)) v' (ins (B a) f) := by
    have hO6 : OwF w6 (fun k => ext (on lab (.by_ a)) wa w5 k ∧ k < w5.heap.size) v' (ins (B a) f) := hO5.bound.chg h6' (fun k hk e => by
      subst e
      rcases hk.1 with h | h
      · exact nbb _ hbase.2.2.1 h
      · have := hG.by_.lt; omega)
    refine (hO6.chg h7 (fun k hk hn => ?_)).mono (fun k hk => ?_)
    · rcases hk.1 with h | h
      · exact newlt k hn (hL k (on_some h))
      · have := hn.2; omega
    · rcases hk.1 with h | h
      · exact l2 _ k h
      · exact l4 k h
  refine ⟨rfl, lab7, ⟨vT, mn, mb, _, _, cn', cb', hC7.blk hG.blk hp7, ?_, hM37, hM67, ⟨l2 _ _ hbase.1, l2 _ _ hbase.2.1, l2 _ _ hbase.2.2.1, hbase.2.2.2⟩, fun k hk => (l6 k hk).elim (fun h => by have := hL k h; omega) (fun h => h.2), fun a' f' ha' hf' => ⟨fun hK' => ?_, fun hK' => ?_⟩, fun a' ha' => ?_, fun kl hkl => ?_, by have := hG.tail.2.1; omega, by have := hG.tail.2.2; omega⟩, fun k hk => (l6 k hk).elim .inl (fun h => .inr ⟨by omega, h.2⟩), ?_⟩
  · refine Kd.R_mono (Kd.R_step (Kd.R_bound hG.types) (fun k hk hlt => hC7.block k hlt (fun h => ?_))) (fun k hk => l2 _ k hk.1)
    rcases h with rfl | h | rfl
    · obtain ⟨_, _, _, q, _, cells, hc⟩ := hk; rw [hmn] at hc; cases hc
    · exact nbb k hk.1 h
    · obtain ⟨_, _, _, q, _, cells, hc⟩ := hk; rw [hmb] at hc; cases hc
  · by_cases e : a' = a ∧ f' = f
    · obtain ⟨rfl, rfl⟩ := e
      refine ⟨b, by rw [upd_same], ?_⟩
      unfold updN; rw [if_pos ⟨rfl, rfl⟩]
      exact hS7.mono (fun k hk => hk.elim (l3 k) (l5 k))
    · have hK0 : K a' f' := hK'.resolve_right e
      obtain ⟨b', e1, e2⟩ := (hG.ways a' f' ha' hf').1 hK0
      have hw : wayL a' f' ≠ wayL a f := fun h => e (wayL_inj ha' hf' ha hf h)
      unfold updN; rw [if_neg e]
      refine ⟨b', by rw [upd_other _ hw]; exact e1, ?_⟩
      exact (e2.chg hC7 (kept _ (fun h => by cases h) (fun h => by cases h))).mono (fun k hk => l2 _ k hk)
  · have e : ¬ (a' = a ∧ f' = f) := fun h => hK' (.inr h)
    have hw : wayL a' f' ≠ wayL a f := fun h => e (wayL_inj ha' hf' ha hf h)
    rw [upd_other _ hw]
    exact (hG.ways a' f' ha' hf').2 (fun h => hK' (.inl h))
  · by_cases e : a' = a
    · subst e
      unfold updB; rw [if_pos rfl]
      refine ⟨srt_ins (hG.fields a' ha').1 f, fun _ => ⟨v', by rw [upd_same], hO7⟩, fun h => ?_⟩
      have : f ∈ ins (B a') f := mem_ins.2 (.inl rfl)
      rw [h] at this; cases this
    · have hne : (Lit.int .i64 a') ≠ .int .i64 a := fun h => e (by cases h; rfl)
      unfold updB; rw [if_neg e, upd_other _ hne]
      obtain ⟨r1, r2, r3⟩ := hG.fields a' ha'
      refine ⟨r1, fun hB => ?_, r3⟩
      obtain ⟨v, e1, e2⟩ := r2 hB
      exact ⟨v, e1, (e2.chg hC7 (kept _ (fun h => by cases h) (fun h => e (by cases h; rfl)))).mono (fun k hk => l2 _ k hk)⟩
  · by_cases e : kl = .int .i64 a
    · exact ⟨a, ha, e⟩
    · rw [upd_other _ e] at hkl
      exact hG.tail.1 kl hkl
  · exact (Chg.of_below hW _).then_ hC7 (fun k hk => .inl (hk.elim (fun h => h ▸ on_some hbase.2.1) (fun h => h.elim on_some (fun h => h ▸ on_some hbase.2.2.1))))
theorem set_kept {W w2 w3 w4 wa w5 w6 : World} {lab : Nat → Option Tag} {p : Nat} {T : List ByteArray} {K : Int → Int → Prop} {N : Int → Int → List Int} {B : Int → List Int} {M : Nat} {vT : Value} {mn mb : Nat} {fn fb : Lit → Option Value} {cn cb : Nat} {a : Int} {b : Nat}
    (hG : GXc W lab p T K N B M vT mn mb fn fb cn cb) (h2 : Below W.heap.size W w2) (hS2 : SetF w2 (new W w2) b []) (h3 : Chg (fun k => k = mn) w2 w3) (h4 : Below w3.heap.size w3 w4) (ha4 : Below w4.heap.size w4 wa) (h5 : Chg (on lab (.by_ a)) wa w5) (h6 : w5.grownBy w6 (some mb)) : SetF w6 (new W w2) b [] := by
  have h6' : Chg (fun k => k = mb) w5 w6 := Chg.of_grown h6 (fun k hk => by cases hk; rfl)
  have m1 := hG.next.lt
  have m2 := hG.by_.lt
  exact ((((hS2.chg h3 (fun k hk e => by have := hk.1; omega)).below h4).below ha4).chg h5 (fun k hk e => by have := hk.1; have := hG.lt k (on_some e); omega)).chg h6' (fun k hk e => by have := hk.1; omega)
set_option maxHeartbeats 4000000 in
set_option maxRecDepth 100000 in
theorem put_new (p : Nat) (lab : Nat → Option Tag) (T : List ByteArray) (K : Int → Int → Prop) (N : Int → Int → List Int) (B : Int → List Int) (M : Nat) (a f z : Int) (w : World) (h : GX w lab p T K N B M) (ha : ok64 a) (hf : ok64 f) (hK : ¬ K a f) (hfB : f ∉ B a) (hM : M ≤ 1000000) (hBl : (B a).length ≤ 1000000) :
    Calls Tryz.prog 61 #[.pointer (some ⟨p, 0, none⟩), .agg #[.int .i64 a, .int .i64 f], .int .i64 z] w (PutSaid w lab p T (fun a' f' => K a' f' ∨ (a' = a ∧ f' = f)) (updN N a f (addL [] z)) (updB B a (ins (B a) f)) (M + 1)) := by
  have hal : Below w.heap.size w (w.alloc (.cells #[.int .i64 a, .int .i64 f] 84)) := below_alloc (Below.refl _ _) _
  have H := Aside0.mk (h.below hal)
  have Hal := Aside0.mk hal
  have Ha := Aside0.mk (And.intro ha (And.intro hf (And.intro hK (And.intro hfB (And.intro hM hBl)))))
  have k0 : (w.alloc (.cells #[.int .i64 a, .int .i64 f] 84)).cell? ⟨w.heap.size, 0, none⟩ = some (.int .i64 a) := blk_cell (heap_alloc_new _ _) 0
  have k1 : (w.alloc (.cells #[.int .i64 a, .int .i64 f] 84)).cell? ⟨w.heap.size, 1, none⟩ = some (.int .i64 f) := blk_cell (heap_alloc_new _ _) 1
  have hgl : ∀ k, lab k ≠ none → k ≠ w.heap.size := fun k hk e => by have := h.lt k hk; omega
  have Hgl := Aside0.mk hgl
  have hkey := wayL_key ha hf
  obtain ⟨vT0, mn0, mb0, fn0, fb0, cn0, cb0, g0⟩ := h.below hal
  have hr : (fn0 (wayL a f)).getD (.pointer none) = .pointer none := by rw [(g0.ways a f ha hf).2 hK]; rfl
  have ho : (fn0 (wayL a f)).isSome = false := by rw [(g0.ways a f ha hf).2 hK]; rfl
  have hrun : ∀ n, (Instr.lookup 77 (.map (some mn0)) (.agg #[.int .i64 a, .int .i64 f]) true).run Tryz.prog ((w.alloc (.cells #[.int .i64 a, .int .i64 f] 84)).drewN n) = .ok (.tuple #[.pointer none, .bool false]) ((w.alloc (.cells #[.int .i64 a, .int .i64 f] 84)).drewN n) := fun n => by
    have := (g0.next.below (pw_below_drewN (Below.refl _ _) n)).look_ok law54 Tryz.underlying77 (zero55 _) hkey
    rw [hr, ho] at this
    exact this
  have c1 : (w.alloc (.cells #[.int .i64 a, .int .i64 f] 84)).cell? ⟨p, 1, none⟩ = some (.map (some mn0)) := blk_cell g0.blk 1
  have Hkey := Aside0.mk hkey
  clear h ha hf hK hfB hM hBl hal hgl hkey hr ho g0
  go_enter Tryz.func61, Tryz.ntmps61
  go_wp2_with fail
  go_quiet (fail)
  have hbw : Below (w.alloc (.cells #[.int .i64 a, .int .i64 f] 84)).heap.size (w.alloc (.cells #[.int .i64 a, .int .i64 f] 84)) ((w.alloc (.cells #[.int .i64 a, .int .i64 f] 84)).drewN nq) := pw_below_drewN (Below.refl _ _) _
  have HX := Aside0.mk (H.out.below hbw)
  have HW := Aside0.mk (below_then Hal.out Hal.out.size hbw)
  have k0 := cell_bel hbw k0
  have k1 := cell_bel hbw k1
  have Hgw : Aside0 (w.heap.size < ((w.alloc (.cells #[.int .i64 a, .int .i64 f] 84)).drewN nq).heap.size) := ⟨by simp⟩
  clear hrun c1 H Hal hbw
  generalize (w.alloc (.cells #[.int .i64 a, .int .i64 f] 84)).drewN nq = W at *
  obtain ⟨vT, mn, mb, fn, fb, cn, cb, hG⟩ := HX.out
  have ho : (fn (wayL a f)).isSome = false := by rw [(hG.ways a f Ha.out.1 Ha.out.2.1).2 Ha.out.2.2.1]; rfl
  obtain ⟨hs8, h8a, h8b⟩ := hG.fields a Ha.out.1
  have hv : ∃ v, (fb (.int .i64 a)).getD (.slice none 0 0) = v ∧ OwF W (on lab (.by_ a)) v (B a) := by
    by_cases hB : B a = []
    · rw [h8b hB, hB]; exact ⟨_, rfl, OwF.nil _ _⟩
    · obtain ⟨v, e2, e3⟩ := h8a hB
      exact ⟨v, by rw [e2]; rfl, e3⟩
  obtain ⟨v, hv1, hv2⟩ := hv
  have HV := Aside0.mk (And.intro hv1 (And.intro hv2 hs8))
  have HG := Aside0.mk hG
  have H1 := Aside0.mk hG.blk
  have H3 := Aside0.mk hG.next
  have H4 := Aside0.mk hG.by_
  have H5 := Aside0.mk hG.base
  have Hcn := Aside0.mk hG.tail.2
  have Ho := Aside0.mk ho
  clear hG ho hs8 h8a h8b hv1 hv2
  go_wp2_with fail
  refine (of_any W).mono ?_
  rintro e w2 ⟨b, rfl, r1, r2⟩
  have HS2 := Aside0.mk r1
  have HB2 := Aside0.mk r2
  have k0 := cell_bel r2 k0
  have k1 := cell_bel r2 k1
  have hb2 := Ow.blk_below H1.out r2
  have c1 : w2.cell? ⟨p, 1, none⟩ = some (.map (some mn)) := blk_cell hb2 1
  have hM3 := H3.out.below r2
  obtain ⟨es, ck, hmn⟩ := hM3.at_block
  have np : ¬ p = mn := fun e => by rw [e, hmn] at hb2; cases hb2
  have ng : ¬ w.heap.size = mn := fun e => Hgl.out mn (on_some H5.out.2.1) e.symm
  obtain ⟨w3, hst, hM3', hg3⟩ := (hM3.below (below_drew (Below.refl w2.heap.size w2))).store (val := .pointer (some ⟨b, 0, none⟩)) law54 Tryz.underlying77 (by have := Hcn.out; have := Ha.out.2.2.2.2.1; unfold maxLen; omega) Hkey.out
  rw [Ho.out] at hM3'
  have HM3 := Aside0.mk hM3'
  have hC3 : Chg (fun k => k = mn) w2 w3 := (chg_drew (Chg.refl _ w2)).then_ (Chg.of_grown hg3 (fun k hk => by cases hk; rfl)) (fun k hk => .inl hk)
  have hCW := Chg.refl (fun k => k = mn) w2
  clear hM3 hM3' hg3 r1 r2 hmn hb2
  unfold wayV at hst
  go_wp2_with fail
  go_region_held3 (fun W' => W'.cell? ⟨p, 1, none⟩ = some (.map (some mn)) ∧ W'.cell? ⟨w.heap.size, 0, none⟩ = some (.int .i64 a) ∧ W'.cell? ⟨w.heap.size, 1, none⟩ = some (.int .i64 f) ∧ Chg (fun k => k = mn) w2 W')
   (refine ⟨chg_cell (F := fun k => k = mn) (w := w2) ?_ np c1, chg_cell (F := fun k => k = mn) (w := w2) ?_ ng k0, chg_cell (F := fun k => k = mn) (w := w2) ?_ ng k1, ?_⟩ <;> simp [*])
   (first | (fail))
  rename_i hheld
  obtain ⟨-, k0, k1, -⟩ := hheld
  have hb3 := hC3.blk (Ow.blk_below H1.out HB2.out) np
  have c2 : w3.cell? ⟨p, 2, none⟩ = some (.map (some mb)) := blk_cell hb3 2
  have hM4 := (H4.out.below HB2.out).chg hC3 (fun e => H5.out.2.2.2 e.symm)
  have HM4 := Aside0.mk hM4
  have nby : ∀ k, on lab (.by_ a) k → ¬ k = mn := fun k hk e => on_ne (by intro h; cases h) hk (e ▸ H5.out.2.1)
  have Hv3 := Aside0.mk ((HV.out.2.1.below HB2.out).chg hC3 nby)
  have HC3 := Aside0.mk hC3
  have Hb3 := Aside0.mk hb3
  have hkeyi := intKey Ha.out.1
  have Hkeyi := Aside0.mk hkeyi
  obtain ⟨i, hi⟩ : ∃ i, below (B a) f = i := ⟨_, rfl⟩
  have Hi := Aside0.mk hi
  have hrun : ∀ n, (Instr.lookup 78 (.map (some mb)) (.int .i64 a) false).run Tryz.prog (w3.drewN n) = .ok v (w3.drewN n) := fun n => by
    have := (hM4.below (pw_below_drewN (Below.refl _ _) n)).look law3 Tryz.underlying78 (zero26 _) hkeyi
    rw [HV.out.1] at this
    exact this
  have Hbs := Aside0.mk (show ∀ n, Calls Tryz.prog 82 #[v, .int .i64 f] (w3.drewN n) fun e w' => e = .returned (.tuple #[.int .i64 (i : Int), .bool false]) ∧ ∃ q, w' = (w3.drewN n).drewN q from fun n => by
    have := bs_q v (B a) f (w3.drewN n) (Hv3.out.below (pw_below_drewN (Below.refl _ _) n)).toV HV.out.2.2 (by have := Ha.out.2.2.2.2.2; omega)
    rw [hi, decide_eq_false Ha.out.2.2.2.1] at this
    exact this)
  clear hst c1 hCW np ng hC3 hM4 hkeyi hi hb3 nby
  go_wp2_with fail
  go_quiet ((go_at_call 82; exact Calls.quiet_of (Hbs.out _)))
  have hbw : Below w3.heap.size w3 (w3.drewN nq) := pw_below_drewN (Below.refl _ _) _
  have k0 := cell_bel hbw k0
  have k1 := cell_bel hbw k1
  have c2 := cell_bel hbw c2
  have HM4 := Aside0.mk (HM4.out.below hbw)
  have Hv4 := Aside0.mk (Hv3.out.below hbw)
  have Hb4 := Aside0.mk (Ow.blk_below Hb3.out hbw)
  have HBW := Aside0.mk hbw
  clear hrun hbw Hbs Hv3 Hb3
  generalize w3.drewN nq = w4 at *
  obtain ⟨es, ck, hmb⟩ := HM4.out.at_block
  have np : ¬ (on lab (.by_ a) p ∨ p = mb) := fun e => e.elim (fun h => on_ne (by intro h; cases h) h H5.out.1) (fun h => by have := Hb4.out; rw [h, hmb] at this; cases this)
  have ng : ¬ (on lab (.by_ a) w.heap.size ∨ w.heap.size = mb) := fun e => e.elim (fun h => Hgl.out _ (on_some h) rfl) (fun h => Hgl.out mb (on_some H5.out.2.2.1) h.symm)
  have nmb : ¬ on lab (.by_ a) mb := fun h => on_ne (by intro h; cases h) h H5.out.2.2.1
  clear hmb
  have hlk1 : (Instr.lookup 78 (.map (some mb)) (.int .i64 a) false).run Tryz.prog w4.drew = .ok v w4.drew := by
    have := (HM4.out.below (below_drew (Below.refl _ _))).look law3 Tryz.underlying78 (zero26 _) Hkeyi.out
    rw [HV.out.1] at this
    exact this
  have hlk2 : (Instr.lookup 78 (.map (some mb)) (.int .i64 a) false).run Tryz.prog ((w4.alloc (.cells #[.int .i64 f] 3)).drew) = .ok v ((w4.alloc (.cells #[.int .i64 f] 3)).drew) := by
    have := ((HM4.out.below (below_alloc (Below.refl _ _) (.cells #[.int .i64 f] 3))).below (below_drew (Below.refl _ _))).look law3 Tryz.underlying78 (zero26 _) Hkeyi.out
    rw [HV.out.1] at this
    exact this
  have hI := insert_own v (B a) f w4.heap.size (on lab (.by_ a)) ((w4.alloc (.cells #[.int .i64 f] 3)).drew) ((Hv4.out.below (below_alloc (Below.refl _ _) (.cells #[.int .i64 f] 3))).below (below_drew (Below.refl _ _))) Ha.out.2.2.2.1 (heap_alloc_new w4 _) (fun h => by
    have h1 := Hgl.out _ (on_some h)
    have h2 := HX.out.lt _ (on_some h)
    have h3 := HB2.out.size
    have h4 := HC3.out.size
    have h5 := HBW.out.size
    omega) (by have := Ha.out.2.2.2.2.2; omega)
  rw [Hi.out] at hI
  have HI := Aside0.mk hI
  have hCW : Chg (fun k => on lab (.by_ a) k ∨ k = mb) w4 w4 := Chg.refl _ _
  clear hI
  go_wp2_with fail
  refine wp_region_held_drew (S := (fun W' => W'.cell? ⟨p, 2, none⟩ = some (.map (some mb)) ∧ W'.cell? ⟨w.heap.size, 0, none⟩ = some (.int .i64 a) ∧ W'.cell? ⟨w.heap.size, 1, none⟩ = some (.int .i64 f) ∧ Chg (fun k => on lab (.by_ a) k ∨ k = mb) w4 W')) (by kernel_rfl) ?_ (fun hHeld => ?_)
  · (refine ⟨chg_cell (F := fun k => on lab (.by_ a) k ∨ k = mb) (w := w4) ?_ np c2, chg_cell (F := fun k => on lab (.by_ a) k ∨ k = mb) (w := w4) ?_ ng k0, chg_cell (F := fun k => on lab (.by_ a) k ∨ k = mb) (w := w4) ?_ ng k1, ?_⟩ <;> simp [*])
  refine wpAnyH_take (i := 0) (oi := _) (v := ?_) (List.getElem?_toArray.trans rfl) (by kernel_rfl) (by kernel_rfl) (by kernel_rfl) (fun _ _ _ h => h) (Or.inl ⟨by rfl, ?_⟩) (by assumption) ?_
  rotate_left
  · intro w hSw; (try dsimp only at hSw); go_simp <;> with_reducible rfl
  try simp only [Act.put, List.setIfInBounds_toArray, List.set_cons_zero, List.set_cons_succ]
  refine wpAnyH_take (i := 1) (oi := _) (v := ?_) (List.getElem?_toArray.trans rfl) (by kernel_rfl) (by kernel_rfl) (by kernel_rfl) (fun _ _ _ h => h) (Or.inl ⟨by rfl, ?_⟩) (by assumption) ?_
  rotate_left
  · intro w hSw; (try dsimp only at hSw); go_simp <;> with_reducible rfl
  try simp only [Act.put, List.setIfInBounds_toArray, List.set_cons_zero, List.set_cons_succ]
  refine wpAnyH_take (i := 2) (oi := _) (v := ?_) (List.getElem?_toArray.trans rfl) (by kernel_rfl) (by kernel_rfl) (by kernel_rfl) (fun _ _ _ h => h) (Or.inl ⟨by rfl, ?_⟩) (by assumption) ?_
  rotate_left
  · intro w hSw; (try dsimp only at hSw); go_simp <;> with_reducible rfl
  try simp only [Act.put, List.setIfInBounds_toArray, List.set_cons_zero, List.set_cons_succ]
  refine wpAnyH_take (i := 3) (oi := _) (v := ?_) (List.getElem?_toArray.trans rfl) (by kernel_rfl) (by kernel_rfl) (by kernel_rfl) (fun _ _ _ h => h) (Or.inl ⟨by rfl, ?_⟩) (by assumption) ?_
  rotate_left
  · intro w hSw; (try dsimp only at hSw); go_simp <;> with_reducible rfl
  try simp only [Act.put, List.setIfInBounds_toArray, List.set_cons_zero, List.set_cons_succ]
  refine wpAnyH_take (i := 4) (oi := _) (v := ?_) (List.getElem?_toArray.trans rfl) (by kernel_rfl) (by kernel_rfl) (by kernel_rfl) (fun _ _ _ h => h) (Or.inl ⟨by rfl, ?_⟩) (by assumption) ?_
  rotate_left
  · intro w hSw; (try dsimp only at hSw); go_simp <;> with_reducible rfl
  try simp only [Act.put, List.setIfInBounds_toArray, List.set_cons_zero, List.set_cons_succ]
  refine wpAnyH_take (i := 5) (oi := _) (v := ?_) (List.getElem?_toArray.trans rfl) (by kernel_rfl) (by kernel_rfl) (by kernel_rfl) (fun _ _ _ h => h) (Or.inl ⟨by rfl, ?_⟩) (by assumption) ?_
  rotate_left
  · intro w hSw; (try dsimp only at hSw); go_simp <;> with_reducible rfl
  try simp only [Act.put, List.setIfInBounds_toArray, List.set_cons_zero, List.set_cons_succ]
  refine wpAnyH_take (i := 6) (oi := _) (v := ?_) (List.getElem?_toArray.trans rfl) (by kernel_rfl) (by kernel_rfl) (by kernel_rfl) (fun _ _ _ h => h) (Or.inl ⟨by rfl, ?_⟩) (by assumption) ?_
  rotate_left
  · intro w hSw; (try dsimp only at hSw); go_simp <;> with_reducible rfl
  try simp only [Act.put, List.setIfInBounds_toArray, List.set_cons_zero, List.set_cons_succ]
  refine wpAnyH_take (i := 7) (oi := _) (v := ?_) (List.getElem?_toArray.trans rfl) (by kernel_rfl) (by kernel_rfl) (by kernel_rfl) (fun _ _ _ h => h) (Or.inl ⟨by rfl, ?_⟩) (by assumption) ?_
  rotate_left
  · intro w hSw; (try dsimp only at hSw); go_simp <;> with_reducible rfl
  try simp only [Act.put, List.setIfInBounds_toArray, List.set_cons_zero, List.set_cons_succ]
  refine wpAnyH_take (i := 8) (oi := _) (v := ?_) (List.getElem?_toArray.trans rfl) (by kernel_rfl) (by kernel_rfl) (by kernel_rfl) (fun _ _ _ h => h) (Or.inl ⟨by rfl, ?_⟩) (by assumption) ?_
  rotate_left
  · intro w hSw; (try dsimp only at hSw); go_simp <;> with_reducible rfl
  try simp only [Act.put, List.setIfInBounds_toArray, List.set_cons_zero, List.set_cons_succ]
  refine wpAnyH_take (i := 9) (oi := _) (v := ?_) (List.getElem?_toArray.trans rfl) (by kernel_rfl) (by kernel_rfl) (by kernel_rfl) (fun _ _ _ h => h) (Or.inl ⟨by rfl, ?_⟩) (by assumption) ?_
  rotate_left
  · intro w hSw; (try dsimp only at hSw); go_simp <;> with_reducible rfl
  try simp only [Act.put, List.setIfInBounds_toArray, List.set_cons_zero, List.set_cons_succ]
  refine wpAnyH_take (i := 10) (oi := _) (v := ?_) (List.getElem?_toArray.trans rfl) (by kernel_rfl) (by kernel_rfl) (by kernel_rfl) (fun _ _ _ h => h) (Or.inl ⟨by rfl, ?_⟩) (by assumption) ?_
  rotate_left
  · intro w hSw; (try dsimp only at hSw); go_simp <;> with_reducible rfl
  try simp only [Act.put, List.setIfInBounds_toArray, List.set_cons_zero, List.set_cons_succ]
  refine wpAnyH_take (i := 11) (oi := _) (v := ?_) (List.getElem?_toArray.trans rfl) (by kernel_rfl) (by kernel_rfl) (by kernel_rfl) (fun _ _ _ h => h) (Or.inl ⟨by rfl, ?_⟩) (by assumption) ?_
  rotate_left
  · intro w hSw; (try dsimp only at hSw); go_simp <;> with_reducible rfl
  try simp only [Act.put, List.setIfInBounds_toArray, List.set_cons_zero, List.set_cons_succ]
  refine wpAnyH_take (i := 13) (oi := _) (v := ?_) (List.getElem?_toArray.trans rfl) (by kernel_rfl) (by kernel_rfl) (by kernel_rfl) (fun _ _ _ h => h) (Or.inl ⟨by rfl, ?_⟩) (by assumption) ?_
  rotate_left
  · intro w hSw; (try dsimp only at hSw); go_simp <;> with_reducible rfl
  try simp only [Act.put, List.setIfInBounds_toArray, List.set_cons_zero, List.set_cons_succ]
  refine wpAnyH_take (i := 14) (oi := _) (v := ?_) (List.getElem?_toArray.trans rfl) (by kernel_rfl) (by kernel_rfl) (by kernel_rfl) (fun _ _ _ h => h) (Or.inl ⟨by rfl, ?_⟩) (by assumption) ?_
  rotate_left
  · intro w hSw; (try dsimp only at hSw); go_simp <;> with_reducible rfl
  try simp only [Act.put, List.setIfInBounds_toArray, List.set_cons_zero, List.set_cons_succ]
  refine wpAnyH_take (i := 15) (oi := _) (v := ?_) (List.getElem?_toArray.trans rfl) (by kernel_rfl) (by kernel_rfl) (by kernel_rfl) (fun _ _ _ h => h) (Or.inl ⟨by rfl, ?_⟩) (by assumption) ?_
  rotate_left
  · intro w hSw; (try dsimp only at hSw); go_simp <;> with_reducible rfl
  try simp only [Act.put, List.setIfInBounds_toArray, List.set_cons_zero, List.set_cons_succ]
  refine wpAnyH_ready (rs := [12, 16]) (by kernel_rfl) (by simp) ?_
  refine (AllReadyH.cons (o := _) (List.getElem?_toArray.trans rfl) (fun K hK => ?_) (AllReadyH.cons (o := _) (List.getElem?_toArray.trans rfl) (fun K hK => ?_) AllReadyH.nil))
  · go_simp
    refine hK.out _ _ ?_ (fun hHeld => ?_)
    · (refine ⟨chg_cell (F := fun k => on lab (.by_ a) k ∨ k = mb) (w := w4) ?_ np c2, chg_cell (F := fun k => on lab (.by_ a) k ∨ k = mb) (w := w4) ?_ ng k0, chg_cell (F := fun k => on lab (.by_ a) k ∨ k = mb) (w := w4) ?_ ng k1, ?_⟩ <;> simp [*])
    clear hK K
    try simp only [Act.put, List.setIfInBounds_toArray, List.set_cons_zero, List.set_cons_succ]
    refine wpAnyH_ready (rs := [16]) (by kernel_rfl) (by simp) ?_
    refine (AllReadyH.cons (o := _) (List.getElem?_toArray.trans rfl) (fun K hK => ?_) AllReadyH.nil)
    go_simp
    refine hK.out _ _ ?_ (fun hHeld => ?_)
    · (refine ⟨chg_cell (F := fun k => on lab (.by_ a) k ∨ k = mb) (w := w4) ?_ np c2, chg_cell (F := fun k => on lab (.by_ a) k ∨ k = mb) (w := w4) ?_ ng k0, chg_cell (F := fun k => on lab (.by_ a) k ∨ k = mb) (w := w4) ?_ ng k1, ?_⟩ <;> simp [*])
    clear hK K
    try simp only [Act.put, List.setIfInBounds_toArray, List.set_cons_zero, List.set_cons_succ]
    refine wpAnyH_ready (rs := [17]) (by kernel_rfl) (by simp) ?_
    refine (AllReadyH.cons (o := _) (List.getElem?_toArray.trans rfl) (fun K hK => ?_) AllReadyH.nil)
    go_simp
    (with_reducible refine HI.out.mono ?_)
    rintro e w5 ⟨v', rfl, r3, r4⟩
    obtain ⟨A', c', hv', -, -⟩ := r3.toV
    obtain ⟨m', hm'⟩ : ∃ m, (ins (B a) f).length = m := ⟨_, rfl⟩
    rw [hm'] at hv'
    subst hv'
    clear hm'
    have hM5 := ((HM4.out.below (below_alloc (Below.refl _ _) (.cells #[.int .i64 f] 3))).below (below_drew (Below.refl _ _))).chg r4 nmb
    have hC5 : Chg (fun k => on lab (.by_ a) k ∨ k = mb) w4 w5 := (((Chg.refl _ w4).andBelow (below_alloc (Below.refl _ _) (.cells #[.int .i64 f] 3))).andBelow (below_drew (Below.refl _ _))).then_ r4 (fun k hk => .inl (.inl hk))
    obtain ⟨w6, hst6, hM6, hg6⟩ := hM5.store (val := .slice A' m' c') law3 Tryz.underlying78 (by have := Hcn.out; have := Ha.out.2.2.2.2.1; unfold maxLen; omega) Hkeyi.out
    have hC6 : Chg (fun k => on lab (.by_ a) k ∨ k = mb) w4 w6 := hC5.then_ (Chg.of_grown hg6 (fun k hk => by cases hk; rfl)) (fun k hk => .inl (.inr hk))
    have HM6 := Aside0.mk hM6
    have HI5 := Aside0.mk (And.intro r3 r4)
    have Hg6 := Aside0.mk hg6
    clear hM5 hM6 r3 r4 hg6
    refine hK.out _ _ ?_ (fun hHeld => ?_)
    · (refine ⟨chg_cell (F := fun k => on lab (.by_ a) k ∨ k = mb) (w := w4) ?_ np c2, chg_cell (F := fun k => on lab (.by_ a) k ∨ k = mb) (w := w4) ?_ ng k0, chg_cell (F := fun k => on lab (.by_ a) k ∨ k = mb) (w := w4) ?_ ng k1, ?_⟩ <;> simp [*])
    clear hK K
    try simp only [Act.put, List.setIfInBounds_toArray, List.set_cons_zero, List.set_cons_succ]
    refine wpAnyH_ready (rs := [18]) (by kernel_rfl) (by simp) ?_
    refine (AllReadyH.cons (o := _) (List.getElem?_toArray.trans rfl) (fun K hK => ?_) AllReadyH.nil)
    go_simp
    refine hK.out _ _ ?_ (fun hHeld => ?_)
    · (refine ⟨chg_cell (F := fun k => on lab (.by_ a) k ∨ k = mb) (w := w4) ?_ np c2, chg_cell (F := fun k => on lab (.by_ a) k ∨ k = mb) (w := w4) ?_ ng k0, chg_cell (F := fun k => on lab (.by_ a) k ∨ k = mb) (w := w4) ?_ ng k1, ?_⟩ <;> simp [*])
    clear hK K
    try simp only [Act.put, List.setIfInBounds_toArray, List.set_cons_zero, List.set_cons_succ]
    refine wpAnyH_done (by kernel_rfl) ?_ _
    have hcn3 : (if (false = true) then cn else cn + 1) ≤ cn + 1 := by simp
    have HS6 := Aside0.mk (set_kept HG.out HB2.out HS2.out HC3.out HBW.out (below_then (below_alloc (Below.refl w4.heap.size w4) (.cells #[.int .i64 f] 3)) (below_alloc (Below.refl w4.heap.size w4) (.cells #[.int .i64 f] 3)).size (below_drew (Below.refl _ _))) HI5.out.2 Hg6.out)
    have HEnd := Aside0.mk (fun (w7 : World) => put_new_end (z := z) (w7 := w7) HW.out HG.out Ha.out.1 Ha.out.2.1 Ha.out.2.2.1 HB2.out HS2.out HC3.out HM3.out hcn3 HBW.out (below_then (below_alloc (Below.refl w4.heap.size w4) (.cells #[.int .i64 f] 3)) (below_alloc (Below.refl w4.heap.size w4) (.cells #[.int .i64 f] 3)).size (below_drew (Below.refl _ _))) HI5.out.1 HI5.out.2 HM6.out (by split <;> omega) Hg6.out)
    clear hcn3
    go_wp2_with fail
    refine (add_any b _ [] z w6 HS6.out).mono ?_
    rintro e w7 ⟨rfl, r5, r6⟩
    have HP := Aside0.mk (HEnd.out w7 r5 r6)
    clear r5 r6
    go_wp2_with fail
    go_end0
    exact HP.out
  · go_simp
    refine hK.out _ _ ?_ (fun hHeld => ?_)
    · (refine ⟨chg_cell (F := fun k => on lab (.by_ a) k ∨ k = mb) (w := w4) ?_ np c2, chg_cell (F := fun k => on lab (.by_ a) k ∨ k = mb) (w := w4) ?_ ng k0, chg_cell (F := fun k => on lab (.by_ a) k ∨ k = mb) (w := w4) ?_ ng k1, ?_⟩ <;> simp [*])
    clear hK K
    try simp only [Act.put, List.setIfInBounds_toArray, List.set_cons_zero, List.set_cons_succ]
    refine wpAnyH_ready (rs := [12]) (by kernel_rfl) (by simp) ?_
    refine (AllReadyH.cons (o := _) (List.getElem?_toArray.trans rfl) (fun K hK => ?_) AllReadyH.nil)
    go_simp
    refine hK.out _ _ ?_ (fun hHeld => ?_)
    · (refine ⟨chg_cell (F := fun k => on lab (.by_ a) k ∨ k = mb) (w := w4) ?_ np c2, chg_cell (F := fun k => on lab (.by_ a) k ∨ k = mb) (w := w4) ?_ ng k0, chg_cell (F := fun k => on lab (.by_ a) k ∨ k = mb) (w := w4) ?_ ng k1, ?_⟩ <;> simp [*])
    clear hK K
    try simp only [Act.put, List.setIfInBounds_toArray, List.set_cons_zero, List.set_cons_succ]
    refine wpAnyH_ready (rs := [17]) (by kernel_rfl) (by simp) ?_
    refine (AllReadyH.cons (o := _) (List.getElem?_toArray.trans rfl) (fun K hK => ?_) AllReadyH.nil)
    go_simp
    (with_reducible refine HI.out.mono ?_)
    rintro e w5 ⟨v', rfl, r3, r4⟩
    obtain ⟨A', c', hv', -, -⟩ := r3.toV
    obtain ⟨m', hm'⟩ : ∃ m, (ins (B a) f).length = m := ⟨_, rfl⟩
    rw [hm'] at hv'
    subst hv'
    clear hm'
    have hM5 := ((HM4.out.below (below_alloc (Below.refl _ _) (.cells #[.int .i64 f] 3))).below (below_drew (Below.refl _ _))).chg r4 nmb
    have hC5 : Chg (fun k => on lab (.by_ a) k ∨ k = mb) w4 w5 := (((Chg.refl _ w4).andBelow (below_alloc (Below.refl _ _) (.cells #[.int .i64 f] 3))).andBelow (below_drew (Below.refl _ _))).then_ r4 (fun k hk => .inl (.inl hk))
    obtain ⟨w6, hst6, hM6, hg6⟩ := hM5.store (val := .slice A' m' c') law3 Tryz.underlying78 (by have := Hcn.out; have := Ha.out.2.2.2.2.1; unfold maxLen; omega) Hkeyi.out
    have hC6 : Chg (fun k => on lab (.by_ a) k ∨ k = mb) w4 w6 := hC5.then_ (Chg.of_grown hg6 (fun k hk => by cases hk; rfl)) (fun k hk => .inl (.inr hk))
    have HM6 := Aside0.mk hM6
    have HI5 := Aside0.mk (And.intro r3 r4)
    have Hg6 := Aside0.mk hg6
    clear hM5 hM6 r3 r4 hg6
    refine hK.out _ _ ?_ (fun hHeld => ?_)
    · (refine ⟨chg_cell (F := fun k => on lab (.by_ a) k ∨ k = mb) (w := w4) ?_ np c2, chg_cell (F := fun k => on lab (.by_ a) k ∨ k = mb) (w := w4) ?_ ng k0, chg_cell (F := fun k => on lab (.by_ a) k ∨ k = mb) (w := w4) ?_ ng k1, ?_⟩ <;> simp [*])
    clear hK K
    try simp only [Act.put, List.setIfInBounds_toArray, List.set_cons_zero, List.set_cons_succ]
    refine wpAnyH_ready (rs := [18]) (by kernel_rfl) (by simp) ?_
    refine (AllReadyH.cons (o := _) (List.getElem?_toArray.trans rfl) (fun K hK => ?_) AllReadyH.nil)
    go_simp
    refine hK.out _ _ ?_ (fun hHeld => ?_)
    · (refine ⟨chg_cell (F := fun k => on lab (.by_ a) k ∨ k = mb) (w := w4) ?_ np c2, chg_cell (F := fun k => on lab (.by_ a) k ∨ k = mb) (w := w4) ?_ ng k0, chg_cell (F := fun k => on lab (.by_ a) k ∨ k = mb) (w := w4) ?_ ng k1, ?_⟩ <;> simp [*])
    clear hK K
    try simp only [Act.put, List.setIfInBounds_toArray, List.set_cons_zero, List.set_cons_succ]
    refine wpAnyH_done (by kernel_rfl) ?_ _
    have hcn3 : (if (false = true) then cn else cn + 1) ≤ cn + 1 := by simp
    have HS6 := Aside0.mk (set_kept HG.out HB2.out HS2.out HC3.out HBW.out (below_then (below_alloc (Below.refl w4.heap.size w4) (.cells #[.int .i64 f] 3)) (below_alloc (Below.refl w4.heap.size w4) (.cells #[.int .i64 f] 3)).size (below_drew (Below.refl _ _))) HI5.out.2 Hg6.out)
    have HEnd := Aside0.mk (fun (w7 : World) => put_new_end (z := z) (w7 := w7) HW.out HG.out Ha.out.1 Ha.out.2.1 Ha.out.2.2.1 HB2.out HS2.out HC3.out HM3.out hcn3 HBW.out (below_then (below_alloc (Below.refl w4.heap.size w4) (.cells #[.int .i64 f] 3)) (below_alloc (Below.refl w4.heap.size w4) (.cells #[.int .i64 f] 3)).size (below_drew (Below.refl _ _))) HI5.out.1 HI5.out.2 HM6.out (by split <;> omega) Hg6.out)
    clear hcn3
    go_wp2_with fail
    refine (add_any b _ [] z w6 HS6.out).mono ?_
    rintro e w7 ⟨rfl, r5, r6⟩
    have HP := Aside0.mk (HEnd.out w7 r5 r6)
    clear r5 r6
    go_wp2_with fail
    go_end0
    exact HP.out
end Go.Proofs.YtkpadjhdneiniaaGreatDoor.Gr
end

/- Ge: graph.put: of an edge; graph.there. -/
section
namespace Go.Proofs.YtkpadjhdneiniaaGreatDoor.Gr
set_option linter.unusedVariables false
open Go.RowKit Go.Proofs.YtkpadjhdneiniaaGreatDoorW.PrintWords Go.Proofs.YtkpadjhdneiniaaGreatDoorW.PrintLast Go.Proofs.YtkpadjhdneiniaaGreatDoorW.PrintMore Go.Maps
open Go.Proofs.YtkpadjhdneiniaaGreatDoor.Base Go.Proofs.YtkpadjhdneiniaaGreatDoor.Map Go.Proofs.YtkpadjhdneiniaaGreatDoor.Sl Go.Proofs.YtkpadjhdneiniaaGreatDoor.Ow Go.Proofs.YtkpadjhdneiniaaGreatDoor.Se

/-- is there an edge of this way? -/
def KE (E : List GE) (a f : Int) : Prop := ∃ t, (a, f, t) ∈ E
/-- The graph in block p: types T, edges E. -/
def GN (w : World) (lab : Nat → Option Tag) (p : Nat) (T : List ByteArray) (E : List GE) : Prop := GX w lab p T (KE E) (fun a f => nextG E f [a]) (fun a => fieldsG E [a]) E.length
theorem GX.more {w : World} {lab : Nat → Option Tag} {p : Nat} {T : List ByteArray} {K : Int → Int → Prop} {N : Int → Int → List Int} {B : Int → List Int} {M M' : Nat} (h : GX w lab p T K N B M) (hM : M ≤ M') : GX w lab p T K N B M' := by
  obtain ⟨vT, mn, mb, fn, fb, cn, cb, g⟩ := h
  exact ⟨vT, mn, mb, fn, fb, cn, cb, ⟨g.blk, g.types, g.next, g.by_, g.base, g.lt, g.ways, g.fields, g.tail.1, by have := g.tail.2.1; omega, by have := g.tail.2.2; omega⟩⟩
theorem KE_snoc {E : List GE} {a f z a' f' : Int} : KE (E ++ [(a, f, z)]) a' f' ↔ KE E a' f' ∨ (a' = a ∧ f' = f) := by
  unfold KE
  simp only [List.mem_append, List.mem_singleton, Prod.mk.injEq]
  constructor
  · rintro ⟨t, h | ⟨h1, h2, _⟩⟩
    · exact .inl ⟨t, h⟩
    · exact .inr ⟨h1, h2⟩
  · rintro (⟨t, h⟩ | ⟨h1, h2⟩)
    · exact ⟨t, .inl h⟩
    · exact ⟨z, .inr ⟨h1, h2, rfl⟩⟩
theorem mem_next1 {E : List GE} {f a b : Int} : b ∈ nextG E f [a] ↔ (a, f, b) ∈ E := by
  rw [mem_nextG]; simp
theorem mem_fields1 {E : List GE} {a f : Int} : f ∈ fieldsG E [a] ↔ KE E a f := by
  rw [mem_fieldsG]
  constructor
  · rintro ⟨a', b, h, h2⟩
    simp at h2; subst h2; exact ⟨b, h⟩
  · rintro ⟨t, h⟩; exact ⟨a, t, h, .inr (by simp)⟩
theorem next_snoc (E : List GE) (a f z : Int) (a' f' : Int) : nextG (E ++ [(a, f, z)]) f' [a'] = if a' = a ∧ f' = f then ins (nextG E f [a]) z else nextG E f' [a'] := by
  split
  · next h =>
    obtain ⟨rfl, rfl⟩ := h
    refine srt_ext (srt_nextG _ _ _) (srt_ins (srt_nextG _ _ _) _) fun x => ?_
    rw [mem_ins, mem_next1, mem_next1, List.mem_append, List.mem_singleton]
    constructor
    · rintro (h | h)
      · exact .inr h
      · cases h; exact .inl rfl
    · rintro (rfl | h)
      · exact .inr rfl
      · exact .inl h
  · next h =>
    refine srt_ext (srt_nextG _ _ _) (srt_nextG _ _ _) fun x => ?_
    rw [mem_next1, mem_next1, List.mem_append, List.mem_singleton]
    refine ⟨fun h2 => h2.elim id (fun e => absurd (by cases e; exact ⟨rfl, rfl⟩) h), .inl⟩
theorem next_none {E : List GE} {a f : Int} (h : ¬ KE E a f) : nextG E f [a] = [] := List.eq_nil_iff_forall_not_mem.2 fun x hx => h ⟨x, mem_next1.1 hx⟩
theorem fields_snoc (E : List GE) (a f z : Int) (a' : Int) : fieldsG (E ++ [(a, f, z)]) [a'] = if a' = a then ins (fieldsG E [a]) f else fieldsG E [a'] := by
  split
  · next h =>
    subst h
    refine srt_ext (srt_fieldsG _ _) (srt_ins (srt_fieldsG _ _) _) fun x => ?_
    rw [mem_ins, mem_fields1, mem_fields1, KE_snoc]
    constructor
    · rintro (h | h)
      · exact .inr h
      · exact .inl h.2
    · rintro (rfl | h)
      · exact .inr ⟨rfl, rfl⟩
      · exact .inl h
  · next h =>
    refine srt_ext (srt_fieldsG _ _) (srt_fieldsG _ _) fun x => ?_
    rw [mem_fields1, mem_fields1, KE_snoc]
    exact ⟨fun h2 => h2.elim id (fun e => absurd e.1 h), .inl⟩
theorem fields_len (E : List GE) (os : List Int) : (fieldsG E os).length ≤ E.length := by
  have h : ∀ l ns : List Int, (insL l ns).length ≤ l.length + ns.length := fun l ns => by
    induction ns generalizing l with
    | nil => simp [insL]
    | cons n ns ih =>
      have h1 : insL l (n :: ns) = insL (ins l n) ns := rfl
      have h2 := ins_len_le l n
      have h3 := ih (ins l n)
      rw [h1]; simp only [List.length_cons]; omega
  have h1 := h [] ((E.filter fun e => os.isEmpty || os.contains e.1).map (·.2.1))
  have h2 := List.length_filter_le (fun e : GE => os.isEmpty || os.contains e.1) E
  unfold fieldsG srtL
  rw [List.length_map, List.length_nil, Nat.zero_add] at h1
  exact Nat.le_trans h1 h2
/-- an edge has been put -/
def PutE (w : World) (lab : Nat → Option Tag) (p : Nat) (T : List ByteArray) (E : List GE) (e : Ending) (w' : World) : Prop :=
  e = .returned (.tuple #[]) ∧ ∃ lab', GN w' lab' p T E ∧ (∀ k, lab' k ≠ none → lab k ≠ none ∨ (w.heap.size ≤ k ∧ k < w'.heap.size)) ∧ Chg (fun k => lab k ≠ none) w w'
theorem put_any (p : Nat) (lab : Nat → Option Tag) (T : List ByteArray) (E : List GE) (a f z : Int) (w : World) (h : GN w lab p T E) (ha : ok64 a) (hf : ok64 f) (hz : 0 ≤ z ∧ z < 1048576) (hE : E.length ≤ 1000000) :
    Calls Tryz.prog 61 #[.pointer (some ⟨p, 0, none⟩), .agg #[.int .i64 a, .int .i64 f], .int .i64 z] w (PutE w lab p T (E ++ [(a, f, z)])) := by
  have hadd : ∀ l, addL l z = ins l z := fun l => if_pos hz
  by_cases hK : KE E a f
  · refine (put_old p lab T _ _ _ _ a f z w h ha hf hK).mono ?_
    rintro e w' ⟨h1, lab', h2, h3⟩
    refine ⟨h1, lab', (h2.more (M' := (E ++ [(a, f, z)]).length) (by simp)).ext (fun a' f' => ?_) (fun a' f' hk => ?_) (fun a' => ?_), h3⟩
    · rw [KE_snoc]; exact ⟨fun h => h.elim id (fun e => by rw [e.1, e.2]; exact hK), .inl⟩
    · show nextG _ _ _ = updN _ _ _ _ _ _
      unfold updN
      rw [next_snoc, hadd]
    · show fieldsG _ _ = fieldsG _ _
      rw [fields_snoc]
      split
      · next e => subst e; rw [ins_old (mem_fields1.2 hK)]
      · rfl
  · refine (put_new p lab T _ _ _ _ a f z w h ha hf hK (fun h => hK (mem_fields1.1 h)) hE (Nat.le_trans (fields_len _ _) hE)).mono ?_
    rintro e w' ⟨h1, lab', h2, h3⟩
    refine ⟨h1, lab', (h2.more (M' := (E ++ [(a, f, z)]).length) (by simp)).ext (fun a' f' => KE_snoc) (fun a' f' hk => ?_) (fun a' => ?_), h3⟩
    · show nextG _ _ _ = updN _ _ _ _ _ _
      unfold updN
      rw [next_snoc, hadd, next_none hK]
    · show fieldsG _ _ = updB _ _ _ _
      unfold updB
      rw [fields_snoc]
set_option maxHeartbeats 1000000 in
theorem there_blk (p : Nat) (A : Option Addr) (n c : Nat) (v1 v2 : Value) (x : Int) (w : World) (hb : w.heap[p]? = some (.cells #[.slice A n c, v1, v2] 80 (0, 0))) :
    Calls Tryz.prog 60 #[.pointer (some ⟨p, 0, none⟩), .int .i64 x] w fun e w' => e = .returned (.bool (decide (0 ≤ x ∧ x < n))) ∧ w = w' := by
  have c0 : w.cell? ⟨p, 0, none⟩ = some (.slice A n c) := blk_cell hb 0
  by_cases h0 : 0 ≤ x
  · by_cases h1 : x < n
    · have d : decide (0 ≤ x ∧ x < (n : Int)) = true := decide_eq_true ⟨h0, h1⟩
      rw [d]
      go_enter Tryz.func60, Tryz.ntmps60
      go_wp2
      go_ret
      exact ⟨rfl, rfl⟩
    · have d : decide (0 ≤ x ∧ x < (n : Int)) = false := decide_eq_false (fun h => h1 h.2)
      have h2 : (n : Int) ≤ x := by omega
      rw [d]
      go_enter Tryz.func60, Tryz.ntmps60
      go_wp2
      go_ret
      exact ⟨rfl, rfl⟩
  · have d : decide (0 ≤ x ∧ x < (n : Int)) = false := decide_eq_false (fun h => h0 h.1)
    have h2 : x < 0 := by omega
    rw [d]
    go_enter Tryz.func60, Tryz.ntmps60
    go_wp2
    go_ret
    exact ⟨rfl, rfl⟩
theorem GX.typesV {w : World} {lab : Nat → Option Tag} {p : Nat} {T : List ByteArray} {K : Int → Int → Prop} {N : Int → Int → List Int} {B : Int → List Int} {M : Nat} (h : GX w lab p T K N B M) : ∃ (A : Option Addr) (c : Nat) (v1 v2 : Value), w.heap[p]? = some (.cells #[.slice A T.length c, v1, v2] 80 (0, 0)) ∧ Kd.C Kd.string w A T.length T := by
  obtain ⟨vT, mn, mb, fn, fb, cn, cb, g⟩ := h
  obtain ⟨A, c, rfl, _, hr⟩ := Kd.R_reads g.types
  exact ⟨A, c, _, _, g.blk, hr⟩
theorem there_any (p : Nat) (lab : Nat → Option Tag) (T : List ByteArray) (E : List GE) (x : Int) (w : World) (h : GN w lab p T E) :
    Calls Tryz.prog 60 #[.pointer (some ⟨p, 0, none⟩), .int .i64 x] w fun e w' => e = .returned (.bool (decide (0 ≤ x ∧ x < T.length))) ∧ w = w' := by
  obtain ⟨A, c, v1, v2, hb, _⟩ := GX.typesV h
  exact there_blk p A T.length c v1 v2 x w hb
end Go.Proofs.YtkpadjhdneiniaaGreatDoor.Gr
end

/- Gf: graph.New. -/
section
namespace Go.Proofs.YtkpadjhdneiniaaGreatDoor.Gr
set_option linter.unusedVariables false
open Go.RowKit Go.Proofs.YtkpadjhdneiniaaGreatDoorW.PrintWords Go.Proofs.YtkpadjhdneiniaaGreatDoorW.PrintLast Go.Proofs.YtkpadjhdneiniaaGreatDoorW.PrintMore Go.Maps
open Go.Proofs.YtkpadjhdneiniaaGreatDoor.Base Go.Proofs.YtkpadjhdneiniaaGreatDoor.Map Go.Proofs.YtkpadjhdneiniaaGreatDoor.Sl Go.Proofs.YtkpadjhdneiniaaGreatDoor.Ow Go.Proofs.YtkpadjhdneiniaaGreatDoor.Se

/-- an edge in a row -/
def edgeC (e : GE) : List Value := [.int .i64 e.1, .int .i64 e.2.1, .int .i64 e.2.2]
def kE : Kd GE where
  sz := 3
  E := []
  K := fun _ e cs => cs = edgeC e
  M := fun _ _ _ e cs => cs = edgeC e
  K_len := fun h => by rw [h]; rfl
  K_one := fun h u hu => by rw [h] at hu; simp only [edgeC, List.mem_cons, List.not_mem_nil, or_false] at hu; rcases hu with rfl | rfl | rfl <;> rfl
  K_below := fun _ h => h
  K_of_M := fun h => h
  M_mono := fun _ h => h
  M_bound := fun h => h
  M_move := fun _ h => h
  M_lower := fun _ h => h
/-- a slice of edges, read; of texts, read -/
structure RdE (w : World) (A : Option Addr) (E : List GE) : Prop where mk :: (out : kE.C w A E.length E)
structure RdT (w : World) (A : Option Addr) (T : List ByteArray) : Prop where mk :: (out : Kd.string.C w A T.length T)
theorem RdE.below {w w1 : World} {A : Option Addr} {E : List GE} (h : RdE w A E) (hb : Below w.heap.size w w1) : RdE w1 A E := ⟨Kd.C_below h.out hb⟩
theorem RdT.below {w w1 : World} {A : Option Addr} {T : List ByteArray} (h : RdT w A T) (hb : Below w.heap.size w w1) : RdT w1 A T := ⟨Kd.C_below h.out hb⟩
theorem RdE.at_ {w : World} {A : Option Addr} {E : List GE} (h : RdE w A E) (i : Nat) (hi : i < E.length) :
    ∃ ad, A = some ad ∧ w.cell? (ad.add (i * 3)) = some (.int .i64 (E.getD i (0, 0, 0)).1) ∧ w.cell? ⟨(ad.add (i * 3)).block, (ad.add (i * 3)).off + 1, none⟩ = some (.int .i64 (E.getD i (0, 0, 0)).2.1) ∧ w.cell? ⟨(ad.add (i * 3)).block, (ad.add (i * 3)).off + 2, none⟩ = some (.int .i64 (E.getD i (0, 0, 0)).2.2) := by
  obtain ⟨ad, c, hA, _, hk, hc⟩ := Kd.C_get h.out (0, 0, 0) (i : Int) (by omega) (by omega)
  rw [Int.toNat_natCast] at hk hc
  have hk' : c = edgeC (E.getD i (0, 0, 0)) := hk
  subst hk'
  have e : ∀ j, j ≠ 0 → ad.add (i * 3 + j) = ⟨(ad.add (i * 3)).block, (ad.add (i * 3)).off + j, none⟩ := fun j hj => by
    unfold Addr.add
    rw [if_neg (by omega)]
    split
    · simp
    · simp; omega
  refine ⟨ad, hA, hc 0 _ rfl, ?_, ?_⟩
  · rw [← e 1 (by omega)]; exact hc 1 _ rfl
  · rw [← e 2 (by omega)]; exact hc 2 _ rfl
theorem RdT.at_ {w : World} {A : Option Addr} {T : List ByteArray} (h : RdT w A T) (i : Nat) (hi : i < T.length) : ∃ ad, A = some ad ∧ w.cell? (ad.add i) = some (.string (T.getD i ByteArray.empty)) := by
  obtain ⟨ad, c, hA, _, hk, hc⟩ := Kd.C_get h.out ByteArray.empty (i : Int) (by omega) (by omega)
  rw [Int.toNat_natCast] at hk hc
  have hk' : c = [Value.string (T.getD i ByteArray.empty)] := hk
  subst hk'
  refine ⟨ad, hA, ?_⟩
  have := hc 0 _ rfl
  simpa [Kd.string, Kd.scalar] using this
/-- Clone, of texts -/
theorem cloneT_any (A : Option Addr) (c : Nat) (T : List ByteArray) (w : World) (h : RdT w A T) (hl : T.length * 16 ≤ 140737488355328) :
    Calls Tryz.prog 59 #[.slice A T.length c] w fun e w' => ∃ v', e = .returned v' ∧ Kd.R Kd.string 9 w' w.heap.size (fun _ => True) v' T ∧ Below w.heap.size w w' := by
  rcases Nat.eq_zero_or_pos T.length with h0 | h0
  · obtain rfl := List.eq_nil_of_length_eq_zero h0
    cases A with
    | none =>
      refine (Tryz.slices_Clone_string_nil _ c w).mono ?_
      rintro e w' ⟨rfl, rfl⟩
      exact ⟨_, rfl, Kd.R_nil _ _ _ _ _, Below.refl _ _⟩
    | some ad =>
      refine (Tryz.slices_Clone_string_zero ad c w).mono ?_
      rintro e w' ⟨v', rfl, ho, _, hb⟩
      exact ⟨_, rfl, Kd.R_of_own ho (fun _ _ => trivial), hb⟩
  · obtain ⟨ad, rfl, hx⟩ := h.at_ 0 h0
    obtain ⟨b, off, sp⟩ := ad
    obtain rfl : sp = none := by
      cases sp with
      | none => rfl
      | some s =>
        have hx2 : w.cell? ⟨b, off, some s⟩ = some (.string (T.getD 0 ByteArray.empty)) := hx
        unfold World.cell? at hx2
        split at hx2
        · simp at hx2
        · cases hx2
    refine (Tryz.slices_Clone_string b off T.length c T w (Nat.le_refl _) hl (fun j hj => ?_)).mono ?_
    · obtain ⟨ad2, e2, hx2⟩ := h.at_ j hj
      cases e2
      have e3 : (⟨b, off, none⟩ : Addr).add j = ⟨b, off + j, none⟩ := by unfold Addr.add; split <;> simp_all
      rw [e3] at hx2
      exact hx2
    rintro e w' ⟨v', rfl, ho, _, hb⟩
    rw [List.take_of_length_le (Nat.le_refl _)] at ho
    exact ⟨_, rfl, Kd.R_of_own ho (fun _ _ => trivial), hb⟩
/-- a graph without edges -/
theorem graph_start (w w1 : World) (v : Value) (T : List ByteArray) (hb : Below w.heap.size w w1) (hv : Kd.R Kd.string 9 w1 w.heap.size (fun _ => True) v T) :
    ∃ lab, GN (((w1.alloc (.map #[] 0)).alloc (.map #[] 0)).alloc (.cells #[v, .map (some w1.heap.size), .map (some (w1.heap.size + 1))] 80)) lab (w1.heap.size + 2) T [] ∧ (∀ k, lab k ≠ none → w.heap.size ≤ k) := by
  have hs := hb.size
  obtain ⟨W1, e1⟩ : ∃ x, w1.alloc (.map #[] 0) = x := ⟨_, rfl⟩
  obtain ⟨W2, e2⟩ : ∃ x, W1.alloc (.map #[] 0) = x := ⟨_, rfl⟩
  have z1 : W1.heap.size = w1.heap.size + 1 := by rw [← e1]; simp
  have z2 : W2.heap.size = w1.heap.size + 2 := by rw [← e2]; simp [z1]
  have b1 : Below w1.heap.size w1 W1 := by rw [← e1]; exact below_alloc (Below.refl _ _) _
  have b2 : Below W1.heap.size W1 W2 := by rw [← e2]; exact below_alloc (Below.refl _ _) _
  have b3 := below_alloc (Below.refl W2.heap.size W2) (.cells #[v, .map (some w1.heap.size), .map (some (w1.heap.size + 1))] 80)
  rw [e1, e2]
  have z3 : (W2.alloc (.cells #[v, .map (some w1.heap.size), .map (some (w1.heap.size + 1))] 80)).heap.size = w1.heap.size + 3 := by simp [z2]
  have hon : ∀ k, w.heap.size ≤ k → k < w1.heap.size + 3 → on (fun k => if w.heap.size ≤ k ∧ k < w1.heap.size + 3 then some Tag.base else none) .base k := fun k h1 h2 => if_pos ⟨h1, h2⟩
  have m1 := MapP.made w1 Tryz.prog 84
  rw [e1] at m1
  have m2 := MapP.made W1 Tryz.prog 3
  rw [e2, z1] at m2
  refine ⟨fun k => if w.heap.size ≤ k ∧ k < w1.heap.size + 3 then some Tag.base else none, ⟨v, w1.heap.size, w1.heap.size + 1, fun _ => none, fun _ => none, 0, 0, ?_, ?_, (m1.below b2).below b3, m2.below b3, ⟨hon _ (by omega) (by omega), hon _ (by omega) (by omega), hon _ (by omega) (by omega), by omega⟩, fun k hk => ?_, fun a f _ _ => ⟨fun h => ?_, fun _ => rfl⟩, fun a _ => ⟨srt_fieldsG _ _, fun h => absurd rfl h, fun _ => rfl⟩, (fun kl h => by cases h), Nat.zero_le _, Nat.zero_le _⟩, fun k hk => ?_⟩
  · have := heap_alloc_new W2 (.cells #[v, .map (some w1.heap.size), .map (some (w1.heap.size + 1))] 80)
    rw [z2] at this; exact this
  · refine Kd.R_below (Kd.R_below (Kd.R_below ?_ b1) b2) b3
    exact Kd.R_lower (Kd.R_mono (Kd.R_bound hv) (fun k hk => hon k hk.2.1 (by have := hk.2.2.1; omega))) (Nat.zero_le _)
  · rw [z3]
    by_cases h : w.heap.size ≤ k ∧ k < w1.heap.size + 3
    · exact h.2
    · exact absurd (if_neg h) hk
  · obtain ⟨t, h⟩ := h; cases h
  · by_cases h : w.heap.size ≤ k ∧ k < w1.heap.size + 3
    · exact h.1
    · exact absurd (if_neg h) hk
/-- what New leaves -/
def NewSaid (w : World) (T : List ByteArray) (E : List GE) (e : Ending) (w' : World) : Prop :=
  (RightG T.length E ∧ ∃ p lab, e = .returned (.tuple #[.pointer (some ⟨p, 0, none⟩), .int .i64 0]) ∧ GN w' lab p T E ∧ (∀ k, lab k ≠ none → w.heap.size ≤ k) ∧ Below w.heap.size w w') ∨
  (¬ RightG T.length E ∧ e = .returned (.tuple #[.pointer none, .int .i64 2]) ∧ Below w.heap.size w w')
theorem getD_mem {α : Type} {l : List α} {d : α} {i : Nat} (hi : i < l.length) : l.getD i d ∈ l := by
  rw [List.getD_eq_getElem?_getD, List.getElem?_eq_getElem hi]; exact List.getElem_mem hi
theorem take_snocE {E : List GE} {i : Nat} {e : GE} (hi : i < E.length) (he : E.getD i (0, 0, 0) = e) : E.take i ++ [e] = E.take (i + 1) := by
  rw [List.take_succ_eq_append_getElem hi, ← he]; simp [List.getElem?_eq_getElem hi]
theorem right_snoc {n : Nat} {E : List GE} {i : Nat} {a f z : Int} (h : RightG n (E.take i)) (hi : i < E.length) (he : E.getD i (0, 0, 0) = (a, f, z)) (h1 : 0 ≤ a ∧ a < n) (h2 : 0 ≤ z ∧ z < n) : RightG n (E.take (i + 1)) := by
  rw [← take_snocE hi he]
  intro e hm
  rcases List.mem_append.1 hm with hm | hm
  · exact h e hm
  · rw [List.mem_singleton] at hm; subst hm; exact ⟨h1.1, h1.2, h2.1, h2.2⟩
theorem not_right {n : Nat} {E : List GE} {i : Nat} {e : GE} (hi : i < E.length) (he : E.getD i (0, 0, 0) = e) (h : ¬ (0 ≤ e.1 ∧ e.1 < n ∧ 0 ≤ e.2.2 ∧ e.2.2 < n)) : ¬ RightG n E := fun hR => h (hR e (he ▸ getD_mem hi))
set_option maxHeartbeats 4000000 in
set_option maxRecDepth 100000 in
theorem new_walk (A : Option Addr) (c : Nat) (T : List ByteArray) (A2 : Option Addr) (c2 : Nat) (E : List GE) (w : World) (hT : RdT w A T) (hE : RdE w A2 E) (hl : T.length ≤ 1000) (hl2 : E.length ≤ 1000) (hok : ∀ a f z, (a, f, z) ∈ E → ok64 f) :
    Calls Tryz.prog 20 #[.slice A T.length c, .slice A2 E.length c2] w (NewSaid w T E) := by
  have HT := Aside0.mk hT
  have HE := Aside0.mk hE
  have Hl := Aside0.mk (And.intro hl hl2)
  have Hok := Aside0.mk hok
  clear hT hE hl hl2 hok
  have hmm := @run_makeMap Tryz.prog
  go_enter Tryz.func20, Tryz.ntmps20
  go_wp2_with fail
  refine (cloneT_any A c T w HT.out (by have := Hl.out; omega)).mono ?_
  rintro e w1 ⟨v, rfl, r1, r2⟩
  obtain ⟨Av, cv, rfl, -, -⟩ := Kd.R_reads r1
  have hst : ∃ lab, GN (((w1.alloc (.map #[] 0)).alloc (.map #[] 0)).alloc (.cells #[.slice Av T.length cv, .map (some w1.heap.size), .map (some (w1.heap.size + 1))] 80)) lab (w1.heap.size + 1 + 1) T [] ∧ (∀ k, lab k ≠ none → w.heap.size ≤ k) := graph_start w w1 _ T r2 r1
  have hbw : Below w.heap.size w (((w1.alloc (.map #[] 0)).alloc (.map #[] 0)).alloc (.cells #[.slice Av T.length cv, .map (some w1.heap.size), .map (some (w1.heap.size + 1))] 80)) := below_alloc (below_alloc (below_alloc r2 _) _) _
  have Hst := Aside0.mk (And.intro hst hbw)
  clear r1 r2 hst hbw
  go_wp2_with fail
  obtain ⟨p, hp⟩ : ∃ p, w1.heap.size + 1 + 1 = p := ⟨_, rfl⟩
  rw [hp] at Hst ⊢
  generalize ((w1.alloc (.map #[] 0)).alloc (.map #[] 0)).alloc (.cells #[.slice Av T.length cv, .map (some w1.heap.size), .map (some (w1.heap.size + 1))] 80) = W at Hst ⊢
  clear hp
  go_loopw [8, 17] (fun _ I wr => ∃ (i : Nat) (lab : Nat → Option Tag), I = .int .i64 (i : Int) ∧ i ≤ E.length ∧ Aside0 (RightG T.length (E.take i)) ∧ Aside0 (GN wr lab p T (E.take i)) ∧ Aside0 (∀ k, lab k ≠ none → w.heap.size ≤ k) ∧ Aside0 (Below w.heap.size w wr)) (fun _ I _ => E.length - (intOf I).toNat)
  case atStart =>
    obtain ⟨⟨lab, h1, h2⟩, h3⟩ := Hst.out
    exact ⟨0, lab, rfl, Nat.zero_le _, ⟨fun e he => by cases he⟩, ⟨h1⟩, ⟨h2⟩, ⟨h3⟩⟩
  case round =>
    obtain ⟨i, lab, rfl, hi, HRt, HG, HL, HB⟩ := hrel
    by_cases hin : i < E.length
    · have hnb : decide ((i : Int) < (E.length : Int)) = true := decide_eq_true (by omega)
      have hnc : decide (i < E.length) = true := decide_eq_true hin
      obtain ⟨ad, rfl, e0, e1, e2⟩ := (HE.out.below HB.out).at_ i hin
      have i0 : 0 ≤ (i : Int) := by omega
      have i1 : (i : Int) < (E.length : Int) := by omega
      have i2 : (i : Int) ≤ 1000 := by have := Hl.out.2; omega
      obtain ⟨⟨ea, ef, ez⟩, hee⟩ : ∃ e, E.getD i (0, 0, 0) = e := ⟨_, rfl⟩
      rw [hee] at e0 e1 e2
      have Hin := Aside0.mk (And.intro hin hee)
      clear hin hi hee
      replace i0 := eq_true i0
      replace i1 := eq_true i1
      have hal : Below wr.heap.size wr (wr.alloc (.cells #[.int .i64 ea, .int .i64 ef, .int .i64 ez] 75)) := below_alloc (Below.refl _ _) _
      have HG2 := Aside0.mk (GX.below HG.out hal)
      have HB2 := Aside0.mk (below_then HB.out HB.out.size hal)
      have Hs2 : Aside0 (wr.heap.size < (wr.alloc (.cells #[.int .i64 ea, .int .i64 ef, .int .i64 ez] 75)).heap.size) := ⟨by simp⟩
      have b0 : (wr.alloc (.cells #[.int .i64 ea, .int .i64 ef, .int .i64 ez] 75)).cell? ⟨wr.heap.size, 0, none⟩ = some (.int .i64 ea) := blk_cell (heap_alloc_new _ _) 0
      have b1 : (wr.alloc (.cells #[.int .i64 ea, .int .i64 ef, .int .i64 ez] 75)).cell? ⟨wr.heap.size, 1, none⟩ = some (.int .i64 ef) := blk_cell (heap_alloc_new _ _) 1
      have b2 : (wr.alloc (.cells #[.int .i64 ea, .int .i64 ef, .int .i64 ez] 75)).cell? ⟨wr.heap.size, 2, none⟩ = some (.int .i64 ez) := blk_cell (heap_alloc_new _ _) 2
      clear hal
      go_wp2_with fail
      generalize wr.alloc (.cells #[.int .i64 ea, .int .i64 ef, .int .i64 ez] 75) = W2 at *
      refine (there_any p lab T _ ea W2 HG2.out).mono ?_
      rintro e w' ⟨rfl, rfl⟩
      by_cases h1 : 0 ≤ ea ∧ ea < T.length
      · have d1 := decide_eq_true h1
        rw [d1]
        clear d1
        have H1 := Aside0.mk h1
        clear h1
        go_wp2_with fail
        refine (there_any p lab T _ ez W2 HG2.out).mono ?_
        rintro e w' ⟨rfl, rfl⟩
        by_cases h2 : 0 ≤ ez ∧ ez < T.length
        · have d2 := decide_eq_true h2
          rw [d2]
          clear d2
          have H2 := Aside0.mk h2
          clear h2
          go_wp2_with fail
          refine (put_any p lab T _ ea ef ez W2 HG2.out (ok64_of (by have := H1.out; omega) (by have := H1.out; have := Hl.out; omega)) (Hok.out _ _ _ (by rw [← Hin.out.2]; exact getD_mem Hin.out.1)) (by have := H2.out; have := Hl.out; omega) (by have := Hl.out; simp; omega)).mono ?_
          rintro e w2 ⟨rfl, lab', r1, r2, r3⟩
          rw [take_snocE Hin.out.1 Hin.out.2] at r1
          have HR' := Aside0.mk (right_snoc HRt.out Hin.out.1 Hin.out.2 H1.out H2.out)
          have HG' := Aside0.mk r1
          have HL' := Aside0.mk (show ∀ k, lab' k ≠ none → w.heap.size ≤ k from fun k hk => (r2 k hk).elim (HL.out k) (fun h => by have := HB2.out.size; omega))
          have HB' := Aside0.mk (show Below w.heap.size w w2 from ((Chg.of_below HB2.out (fun _ => False)).then_ r3 (fun k hk => .inr (HL.out k hk))).below (Nat.le_refl _) (fun k hk => hk.elim))
          clear r1 r2 r3
          go_wp2_with fail
          go_roundw
          case rel => exact ⟨i + 1, lab', by go_num, Hin.out.1, HR', HG', HL', HB'⟩
          case measure => have := Hin.out.1; simp [intOf]; omega
        · have d2 := decide_eq_false h2
          rw [d2]
          clear d2
          have H2 := Aside0.mk h2
          clear h2
          go_wp2_with fail
          go_ret2
          exact .inr ⟨not_right Hin.out.1 Hin.out.2 (fun h => H2.out ⟨h.2.2.1, h.2.2.2⟩), rfl, HB2.out⟩
      · have d1 := decide_eq_false h1
        rw [d1]
        clear d1
        have H1 := Aside0.mk h1
        clear h1
        go_wp2_with fail
        go_ret2
        exact .inr ⟨not_right Hin.out.1 Hin.out.2 (fun h => H1.out ⟨h.1, h.2.1⟩), rfl, HB2.out⟩
    · have hnb : decide ((i : Int) < (E.length : Int)) = false := decide_eq_false (by omega)
      have hnc : decide (i < E.length) = false := decide_eq_false hin
      obtain rfl : i = E.length := by omega
      rw [List.take_length] at HRt HG
      clear hin hi
      go_wp2_with fail
      go_ret2
      exact .inl ⟨HRt.out, p, lab, rfl, HG.out, HL.out, HB.out⟩
/-- New -/
theorem new_any (A : Option Addr) (c : Nat) (T : List ByteArray) (A2 : Option Addr) (c2 : Nat) (E : List GE) (w : World) (hT : RdT w A T) (hE : RdE w A2 E) (hl : T.length ≤ 1000) (hl2 : E.length ≤ 1000) (hok : ∀ a f z, (a, f, z) ∈ E → ok64 f) (hR : RightG T.length E) :
    Calls Tryz.prog 20 #[.slice A T.length c, .slice A2 E.length c2] w fun e w' => ∃ p lab, e = .returned (.tuple #[.pointer (some ⟨p, 0, none⟩), .int .i64 0]) ∧ GN w' lab p T E ∧ Below w.heap.size w w' :=
  (new_walk A c T A2 c2 E w hT hE hl hl2 hok).mono fun e w' h => h.elim (fun ⟨_, p, lab, h1, h2, h3, h4⟩ => ⟨p, lab, h1, h2, h4⟩) (fun h => absurd hR h.1)
end Go.Proofs.YtkpadjhdneiniaaGreatDoor.Gr
end
