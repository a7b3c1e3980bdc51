/- graph.Graph: how it lies: labels of blocks, what is kept. -/
import Derived.Test.YtfgonclaiphoeaaGreatDoorGa
namespace Go.Proofs.YtfgonclaiphoeaaGreatDoor.Gr
set_option linter.unusedVariables false
open Go.RowKit Go.Proofs.YtfgonclaiphoeaaGreatDoorW.PrintWords Go.Proofs.YtfgonclaiphoeaaGreatDoorW.PrintLast Go.Proofs.YtfgonclaiphoeaaGreatDoorW.PrintMore Go.Maps
open Go.Proofs.YtfgonclaiphoeaaGreatDoor.Base Go.Proofs.YtfgonclaiphoeaaGreatDoor.Map Go.Proofs.YtfgonclaiphoeaaGreatDoor.Sl Go.Proofs.YtfgonclaiphoeaaGreatDoor.Ow Go.Proofs.YtfgonclaiphoeaaGreatDoor.Se

/-! labels -/
inductive Tag | base | nx (a f : Int) | by_ (a : Int)
/-- blocks lo .. hi bear a label -/
def relab (lab : Nat → Option Tag) (lo hi : Nat) (t : Tag) : Nat → Option Tag := fun k => if lo ≤ k ∧ k < hi then some t else lab k
def on (lab : Nat → Option Tag) (t : Tag) : Nat → Prop := fun k => lab k = some t

/-- The graph in block p: its types; K: which ways there are; N: where they lead; B: each object's fields; its maps' blocks and what they hold. -/
structure GXc (w : World) (lab : Nat → Option Tag) (p : Nat) (T : List ByteArray) (K : Int → Int → Prop) (N : Int → Int → List Int) (B : Int → List Int) (M : Nat) (vT : Value) (mn mb : Nat) (fn fb : Lit → Option Value) (cn cb : Nat) : Prop where
  blk : w.heap[p]? = some (.cells #[vT, .map (some mn), .map (some mb)] 50 (0, 0))
  types : Kd.R Kd.string 9 w 0 (on lab .base) vT T
  next : MapP Tryz.prog 54 w mn fn cn
  by_ : MapP Tryz.prog 3 w mb fb cb
  base : on lab .base p ∧ on lab .base mn ∧ on lab .base mb ∧ mn ≠ mb
  lt : ∀ k, lab k ≠ none → k < w.heap.size
  ways : ∀ a f, ok64 a → ok64 f → (K a f → ∃ b, fn (wayL a f) = some (.pointer (some ⟨b, 0, none⟩)) ∧ SetF w (on lab (.nx a f)) b (N a f)) ∧ (¬ K a f → fn (wayL a f) = none)
  fields : ∀ a, ok64 a → Srt (B a) ∧ (B a ≠ [] → ∃ v, fb (.int .i64 a) = some v ∧ OwF w (on lab (.by_ a)) v (B a)) ∧ (B a = [] → fb (.int .i64 a) = none)
  tail : (∀ kl, (fb kl).isSome → ∃ a, ok64 a ∧ kl = .int .i64 a) ∧ cn ≤ M ∧ cb ≤ M
structure GX (w : World) (lab : Nat → Option Tag) (p : Nat) (T : List ByteArray) (K : Int → Int → Prop) (N : Int → Int → List Int) (B : Int → List Int) (M : Nat) : Prop where
  mk :: (out : ∃ (vT : Value) (mn mb : Nat) (fn fb : Lit → Option Value) (cn cb : Nat), GXc w lab p T K N B M vT mn mb fn fb cn cb)
section
variable {w w1 : World} {lab : Nat → Option Tag} {p : Nat} {T : List ByteArray} {K : Int → Int → Prop} {N : Int → Int → List Int} {B : Int → List Int} {M : Nat}
theorem GX.chg {G : Nat → Prop} (h : GX w lab p T K N B M) (hC : Chg G w w1) (hd : ∀ k, lab k ≠ none → ¬ G k) : GX w1 lab p T K N B M := by
  obtain ⟨vT, mn, mb, fn, fb, cn, cb, h1, h2, h3, h4, h5, h6, h7, h8, h9⟩ := h
  have hon : ∀ t k, on lab t k → ¬ G k := fun t k hk => hd k (fun e => by rw [on, e] at hk; cases hk)
  exact ⟨vT, mn, mb, fn, fb, cn, cb, hC.blk h1 (hon _ _ h5.1), Kd.R_step h2 (fun k hk hlt => hC.block k hlt (hon _ k hk)), h3.chg hC (hon _ _ h5.2.1), h4.chg hC (hon _ _ h5.2.2.1), h5,
    fun k hk => Nat.lt_of_lt_of_le (h6 k hk) hC.size, fun a f ha hf => ⟨fun hK => by
      obtain ⟨b, e1, e2⟩ := (h7 a f ha hf).1 hK
      exact ⟨b, e1, e2.chg hC (hon _)⟩, (h7 a f ha hf).2⟩, fun a ha => ⟨(h8 a ha).1, fun hB => by
      obtain ⟨v, e1, e2⟩ := (h8 a ha).2.1 hB
      exact ⟨v, e1, e2.chg hC (hon _)⟩, (h8 a ha).2.2⟩, h9⟩
theorem GX.below (h : GX w lab p T K N B M) (hb : Below w.heap.size w w1) : GX w1 lab p T K N B M := h.chg (Chg.of_below hb (fun _ => False)) (fun _ _ h => h)
theorem GX.lt (h : GX w lab p T K N B M) : ∀ k, lab k ≠ none → k < w.heap.size := by
  obtain ⟨vT, mn, mb, fn, fb, cn, cb, h1, h2, h3, h4, h5, h6, _⟩ := h; exact h6
theorem GX.ext {K' : Int → Int → Prop} {N' : Int → Int → List Int} {B' : Int → List Int} (h : GX w lab p T K N B M) (hK : ∀ a f, K' a f ↔ K a f) (hN : ∀ a f, K a f → N' a f = N a f) (hB : ∀ a, B' a = B a) : GX w lab p T K' N' B' M := by
  obtain rfl : B' = B := funext hB
  obtain ⟨vT, mn, mb, fn, fb, cn, cb, h1, h2, h3, h4, h5, h6, h7, h8, h9⟩ := h
  exact ⟨vT, mn, mb, fn, fb, cn, cb, h1, h2, h3, h4, h5, h6, fun a f ha hf => ⟨fun hk => by rw [hN a f ((hK a f).1 hk)]; exact (h7 a f ha hf).1 ((hK a f).1 hk), fun hk => (h7 a f ha hf).2 (fun h => hk ((hK a f).2 h))⟩, h8, h9⟩
end
/-- relabelled: what bore a label still does -/
theorem relab_on {lab : Nat → Option Tag} {w w1 : World} {t t' : Tag} (h : ∀ k, lab k ≠ none → k < w.heap.size) {k : Nat} (hk : on lab t' k) : on (relab lab w.heap.size w1.heap.size t) t' k := by
  unfold on relab
  have := h k (fun e => by rw [on, e] at hk; cases hk)
  rw [if_neg (by omega)]; exact hk
theorem relab_new {lab : Nat → Option Tag} {lo hi : Nat} {t : Tag} {k : Nat} (h : lo ≤ k ∧ k < hi) : on (relab lab lo hi t) t k := if_pos h
theorem relab_ext {lab : Nat → Option Tag} {w w1 : World} {t : Tag} (h : ∀ k, lab k ≠ none → k < w.heap.size) {k : Nat} (hk : ext (on lab t) w w1 k) : on (relab lab w.heap.size w1.heap.size t) t k := hk.elim (relab_on h) relab_new
theorem relab_lt {lab : Nat → Option Tag} {w w1 : World} {t : Tag} (h : ∀ k, lab k ≠ none → k < w.heap.size) (hs : w.heap.size ≤ w1.heap.size) : ∀ k, relab lab w.heap.size w1.heap.size t k ≠ none → k < w1.heap.size := fun k hk => by
  unfold relab at hk
  split at hk
  · next h => exact h.2
  · have := h k hk; omega
theorem relab_or {lab : Nat → Option Tag} {lo hi : Nat} {t : Tag} {k : Nat} (hk : relab lab lo hi t k ≠ none) : lab k ≠ none ∨ (lo ≤ k ∧ k < hi) := by
  unfold relab at hk
  split at hk
  · next h => exact .inr h
  · exact .inl hk
theorem on_ne {lab : Nat → Option Tag} {t t' : Tag} (h : t ≠ t') {k : Nat} (hk : on lab t k) : ¬ on lab t' k := fun hk' => h (by unfold on at hk hk'; rw [hk] at hk'; cases hk'; rfl)
theorem on_some {lab : Nat → Option Tag} {t : Tag} {k : Nat} (hk : on lab t k) : lab k ≠ none := fun e => by rw [on, e] at hk; cases hk
open Classical in
/-- a way's objects, turned -/
noncomputable def updN (N : Int → Int → List Int) (a f : Int) (l : List Int) : Int → Int → List Int := fun a' f' => if a' = a ∧ f' = f then l else N a' f'
open Classical in
noncomputable def updB (B : Int → List Int) (a : Int) (l : List Int) : Int → List Int := fun a' => if a' = a then l else B a'
/-- what a map has at a key is told by the world -/
theorem MapP_one {P : Program} {k : TypeId} {w : World} {b n n' : Nat} {f f' : Lit → Option Value} (h : MapP P k w b f n) (h' : MapP P k w b f' n') (K : Keyed P k) {t e : TypeId} (ht : P.underlying t = some (.map k e)) {z : Value} (hz : (zeroValue e).run P w = .ok z w) {key : Value} {kl : Lit} (hkey : keyOf P k key = some kl) {v : Value} (hv : f kl = some v) : f' kl = some v := by
  have l1 := h.look_ok K ht hz hkey
  have l2 := h'.look_ok K ht hz hkey
  rw [l1] at l2
  injection l2 with l3 _
  simp only [Value.tuple.injEq, Array.mk.injEq, List.cons.injEq, Value.bool.injEq, and_true] at l3
  rw [hv] at l3
  cases h2 : f' kl with
  | none => rw [h2] at l3; simp at l3
  | some u =>
    rw [h2] at l3
    have := l3.1
    simp only [Option.getD_some] at this
    rw [this]
theorem zero55 (w : World) : (zeroValue 55).run Tryz.prog w = .ok (.pointer none) w := by kernel_rfl
/-- the set of a way -/
def WayAt (w : World) (p : Nat) (a f : Int) (b : Nat) : Prop := ∃ (vT : Value) (mn mb : Nat) (fn : Lit → Option Value) (cn : Nat), w.heap[p]? = some (.cells #[vT, .map (some mn), .map (some mb)] 50 (0, 0)) ∧ MapP Tryz.prog 54 w mn fn cn ∧ fn (wayL a f) = some (.pointer (some ⟨b, 0, none⟩))
/-- a way's set has been turned -/
theorem GX.set {w w1 : World} {lab : Nat → Option Tag} {p : Nat} {T : List ByteArray} {K : Int → Int → Prop} {N : Int → Int → List Int} {B : Int → List Int} {M : Nat} {a f : Int} {b : Nat} {l : List Int} (h : GX w lab p T K N B M) (hK : K a f)
    (ha : ok64 a) (hf : ok64 f) (hb : WayAt w p a f b)
    (hS : SetF w1 (Ow.ext (on lab (.nx a f)) w w1) b l) (hC : Chg (on lab (.nx a f)) w w1) :
    GX w1 (relab lab w.heap.size w1.heap.size (.nx a f)) p T K (updN N a f l) B M := by
  have hL := h.lt
  obtain ⟨vT, mn, mb, fn, fb, cn, cb, h1, h2, h3, h4, h5, h6, h7, h8, h9⟩ := h
  have hne : ∀ t, t ≠ Tag.nx a f → ∀ k, on lab t k → ¬ on lab (.nx a f) k := fun t ht k hk => on_ne ht hk
  have nb : Tag.base ≠ Tag.nx a f := fun e => by cases e
  have hfn : fn (wayL a f) = some (.pointer (some ⟨b, 0, none⟩)) := by
    obtain ⟨vT', mn', mb', fn', cn', g1, g2, g3⟩ := hb
    rw [h1] at g1
    obtain ⟨rfl, rfl, rfl⟩ : vT = vT' ∧ mn = mn' ∧ mb = mb' := by cases g1; exact ⟨rfl, rfl, rfl⟩
    exact MapP_one g2 h3 law54 Tryz.underlying47 (zero55 w) (wayL_key ha hf) g3
  refine ⟨vT, mn, mb, fn, fb, cn, cb, hC.blk h1 (hne _ nb _ h5.1), Kd.R_mono (Kd.R_step h2 (fun k hk hlt => hC.block k hlt (hne _ nb k hk))) (fun k hk => relab_on hL hk), h3.chg hC (hne _ nb _ h5.2.1), h4.chg hC (hne _ nb _ h5.2.2.1),
    ⟨relab_on hL h5.1, relab_on hL h5.2.1, relab_on hL h5.2.2.1, h5.2.2.2⟩, relab_lt hL hC.size, fun a' f' ha hf => ⟨fun hK' => ?_, (h7 a' f' ha hf).2⟩, fun a' ha => ⟨(h8 a' ha).1, fun hB => ?_, (h8 a' ha).2.2⟩, h9⟩
  · by_cases e : a' = a ∧ f' = f
    · obtain ⟨rfl, rfl⟩ := e
      refine ⟨b, hfn, ?_⟩
      unfold updN; rw [if_pos ⟨rfl, rfl⟩]
      exact hS.mono (fun k hk => relab_ext hL hk)
    · obtain ⟨b', e1, e2⟩ := (h7 a' f' ha hf).1 hK'
      unfold updN; rw [if_neg e]
      refine ⟨b', e1, (e2.chg hC (hne _ (fun h => e (by cases h; exact ⟨rfl, rfl⟩)))).mono (fun k hk => relab_on hL hk)⟩
  · obtain ⟨v, e1, e2⟩ := (h8 a' ha).2.1 hB
    exact ⟨v, e1, (e2.chg hC (hne _ (fun h => by cases h))).mono (fun k hk => relab_on hL hk)⟩
end Go.Proofs.YtfgonclaiphoeaaGreatDoor.Gr
