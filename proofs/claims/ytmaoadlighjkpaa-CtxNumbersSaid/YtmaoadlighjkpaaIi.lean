/- A table beside the document's own, as the laws use them. -/
import Derived.Test.YtmaoadlighjkpaaIh
import Derived.Test.YtmaoadlighjkpaaPInternTextsx1
namespace Go.Proofs.Ytmaoadlighjkpaa.In
open Go.RowKit Go.Proofs.YtmaoadlighjkpaaW.PrintWords Go.Proofs.YtmaoadlighjkpaaW.PrintLast Go.Proofs.YtmaoadlighjkpaaW.PrintMore
open Go.Proofs.Ytmaoadlighjkpaa.PInternTexts
open Go.Proofs.Ytmaoadlighjkpaa.Base Go.Proofs.Ytmaoadlighjkpaa.Map Go.Proofs.Ytmaoadlighjkpaa.Ca Go.Proofs.Ytmaoadlighjkpaa.Qu Go.Maps
set_option linter.unusedVariables false

theorem textsR_loop (l : List ByteArray) (hmax : l.length ≤ 1000000) (d : Nat) : ∀ (k i : Nat), i + d = l.length → d < k → winnowerref04_Texts.l0 k l l i = some true := by
  induction d with
  | zero =>
    intro k i hi hk
    obtain ⟨k, rfl⟩ : ∃ n, k = n + 1 := ⟨k - 1, by omega⟩
    simp only [winnowerref04_Texts.l0]
    rw [if_neg (by omega)]
  | succ d ih =>
    intro k i hi hk
    obtain ⟨k, rfl⟩ : ∃ n, k = n + 1 := ⟨k - 1, by omega⟩
    simp only [winnowerref04_Texts.l0]
    rw [if_pos (by omega), if_pos (by omega), if_pos (by omega)]
    have hw : wrap64 ((i : Int) + 1) = ((i + 1 : Nat) : Int) := by unfold wrap64; omega
    rw [hw]
    simpa using ih k (i + 1) (by omega) (by omega)
theorem textsR_any (A B : Option Addr) (c d : Nat) (l : List ByteArray) (w : World) (hA : RdS w A l) (hc : l.length ≤ c) (hB : RdS w B l) (hd : l.length ≤ d) (hl : l.length ≤ 1000000) :
    Calls Try.prog 45 #[.slice A l.length c, .slice B l.length d] w fun e w' => e = .returned (.bool true) ∧ Below w.heap.size w w' := by
  have hf : winnowerref04_Texts.f (l.length + 1) l l = some true := by
    unfold winnowerref04_Texts.f
    rw [if_pos rfl]
    simpa using textsR_loop l hl l.length (l.length + 1) 0 (by omega) (by omega)
  exact (winnowerref04_Texts.calls (l.length + 1) A c l B d l true w hA hc hB hd hf).mono fun e w' ⟨h1, h2⟩ => ⟨h1, h2.below⟩

/-- Both tables, made by the call since w0, apart. -/
structure PSt (w0 w : World) (p r : Nat) (sl : List ByteArray) (tl ls : List (List Int)) (ss : List ByteArray) : Prop where
  mk :: (out : ∃ F G, TabAt w F p sl tl ∧ RefAt w G r ls ss ∧ (∀ k, F k → ¬ G k) ∧ (∀ k, F k → w0.heap.size ≤ k ∧ k < w.heap.size) ∧ (∀ k, G k → w0.heap.size ≤ k ∧ k < w.heap.size) ∧ Below w0.heap.size w0 w)
section
variable {w0 w w1 : World} {p r : Nat} {sl ss : List ByteArray} {tl ls : List (List Int)}
theorem PSt.bel (h : PSt w0 w p r sl tl ls ss) : Below w0.heap.size w0 w := by obtain ⟨F, G, _, _, _, _, _, h⟩ := h; exact h
theorem PSt.tab (h : PSt w0 w p r sl tl ls ss) : ∃ F, TabAt w F p sl tl := by obtain ⟨F, G, h1, _⟩ := h; exact ⟨F, h1⟩
theorem PSt.ref (h : PSt w0 w p r sl tl ls ss) : ∃ G, RefAt w G r ls ss := by obtain ⟨F, G, h1, h2, _⟩ := h; exact ⟨G, h2⟩
theorem PSt.below (h : PSt w0 w p r sl tl ls ss) (hb : Below w.heap.size w w1) : PSt w0 w1 p r sl tl ls ss := by
  obtain ⟨F, G, h1, h2, h3, h4, h5, h6⟩ := h
  exact ⟨F, G, h1.below hb, h2.below hb, h3, fun k hk => ⟨(h4 k hk).1, Nat.lt_of_lt_of_le (h4 k hk).2 hb.size⟩, fun k hk => ⟨(h5 k hk).1, Nat.lt_of_lt_of_le (h5 k hk).2 hb.size⟩, below_then h6 h6.size hb⟩
@[simp] theorem PSt.alloc (h : PSt w0 w p r sl tl ls ss) (o : Obj) : PSt w0 (w.alloc o) p r sl tl ls ss := h.below (below_alloc (Below.refl _ _) o)
@[simp] theorem PSt.drew (h : PSt w0 w p r sl tl ls ss) : PSt w0 w.drew p r sl tl ls ss := h.below (below_drew (Below.refl _ _))
@[simp] theorem PSt.drewN (h : PSt w0 w p r sl tl ls ss) (n : Nat) : PSt w0 (w.drewN n) p r sl tl ls ss := h.below (pw_below_drewN (Below.refl _ _) n)
theorem PSt.first (h : TSt w0 w p sl tl) : PSt w0 (w.alloc (.cells #[.slice none 0 0, .slice none 0 0] 58)) p w.heap.size sl tl [] [] := by
  obtain ⟨F, h1, h2, h3⟩ := h
  have hb : Below w.heap.size w (w.alloc (.cells #[.slice none 0 0, .slice none 0 0] 58)) := below_alloc (Below.refl _ _) _
  refine ⟨F, fun k => k = w.heap.size, h1.below hb, ⟨_, _, heap_alloc_new w _, Kd.R_nil _ _ _ _ _, Kd.R_nil _ _ _ _ _, rfl⟩, fun k hk e => by have := (h2 k hk).2; omega, fun k hk => ⟨(h2 k hk).1, by have := (h2 k hk).2; simp; omega⟩, fun k hk => by subst hk; exact ⟨h3.size, by simp⟩, below_then h3 h3.size hb⟩
theorem PSt.extT {F G : Nat → Prop} {sl' : List ByteArray} {tl' : List (List Int)} (h1 : TabAt w1 (ext F w w1) p sl' tl') (hC : Chg F w w1) (h2 : RefAt w G r ls ss) (h3 : ∀ k, F k → ¬ G k) (h4 : ∀ k, F k → w0.heap.size ≤ k ∧ k < w.heap.size) (h5 : ∀ k, G k → w0.heap.size ≤ k ∧ k < w.heap.size) (h6 : Below w0.heap.size w0 w) : PSt w0 w1 p r sl' tl' ls ss :=
  ⟨_, G, h1, h2.chg hC (fun k hk hf => h3 k hf hk), fun k hk hg => hk.elim (fun h => h3 k h hg) (fun h => by have := (h5 k hg).2; omega),
    fun k hk => hk.elim (fun h => ⟨(h4 k h).1, Nat.lt_of_lt_of_le (h4 k h).2 hC.size⟩) (fun h => ⟨Nat.le_trans h6.size h.1, h.2⟩), fun k hk => ⟨(h5 k hk).1, Nat.lt_of_lt_of_le (h5 k hk).2 hC.size⟩, h6.trans (hC.below h6.size (fun k hk => (h4 k hk).1))⟩
theorem PSt.extR {F G : Nat → Prop} {ls' : List (List Int)} {ss' : List ByteArray} (h1 : TabAt w F p sl tl) (h2 : RefAt w1 (ext G w w1) r ls' ss') (hC : Chg G w w1) (h3 : ∀ k, F k → ¬ G k) (h4 : ∀ k, F k → w0.heap.size ≤ k ∧ k < w.heap.size) (h5 : ∀ k, G k → w0.heap.size ≤ k ∧ k < w.heap.size) (h6 : Below w0.heap.size w0 w) : PSt w0 w1 p r sl tl ls' ss' :=
  ⟨F, _, h1.chg hC h3, h2, fun k hk hg => hg.elim (fun h => h3 k hk h) (fun h => by have := (h4 k hk).2; omega),
    fun k hk => ⟨(h4 k hk).1, Nat.lt_of_lt_of_le (h4 k hk).2 hC.size⟩, fun k hk => hk.elim (fun h => ⟨(h5 k h).1, Nat.lt_of_lt_of_le (h5 k h).2 hC.size⟩) (fun h => ⟨Nat.le_trans h6.size h.1, h.2⟩), h6.trans (hC.below h6.size (fun k hk => (h5 k hk).1))⟩
end
theorem id_ps (w0 w : World) (p r : Nat) (sl ss : List ByteArray) (tl ls : List (List Int)) (u : Value) (ns : List Int) (h : PSt w0 w p r sl tl ls ss) (hu : RdV w u ns) (hw : ∀ x ∈ ns, (Lit.int .i64 x).wf = true) (hlen : tl.length ≤ 1000000) :
    Calls Try.prog 27 #[.pointer (some ⟨p, 0, none⟩), u] w fun e w' => e = .returned (.int .i64 (idOf tl ns)) ∧ PSt w0 w' p r sl (idL tl ns) ls ss := by
  obtain ⟨F, G, h1, h2, h3, h4, h5, h6⟩ := h
  exact (id_any p F sl tl u ns w h1 hu hw hlen).mono fun e w' ⟨r1, r2, r3⟩ => ⟨r1, PSt.extT r2 r3 h2 h3 h4 h5 h6⟩
theorem word_ps (w0 w : World) (p r : Nat) (sl ss : List ByteArray) (tl ls : List (List Int)) (s : ByteArray) (h : PSt w0 w p r sl tl ls ss) (hs : sOk s) (hlen : sl.length ≤ 1000000) :
    Calls Try.prog 42 #[.pointer (some ⟨p, 0, none⟩), .string s] w fun e w' => e = .returned (.int .i64 (place sl s : Int)) ∧ PSt w0 w' p r (wordL sl s) tl ls ss := by
  obtain ⟨F, G, h1, h2, h3, h4, h5, h6⟩ := h
  exact (word_any p F sl tl s w h1 hs hlen).mono fun e w' ⟨r1, r2, r3⟩ => ⟨r1, PSt.extT r2 r3 h2 h3 h4 h5 h6⟩
theorem refWord_ps (w0 w : World) (p r : Nat) (sl ss : List ByteArray) (tl ls : List (List Int)) (s : ByteArray) (h : PSt w0 w p r sl tl ls ss) (hlen : ss.length ≤ 1000000) :
    Calls Try.prog 43 #[.pointer (some ⟨r, 0, none⟩), .string s] w fun e w' => e = .returned (.int .i64 (place ss s : Int)) ∧ PSt w0 w' p r sl tl ls (wordL ss s) := by
  obtain ⟨F, G, h1, h2, h3, h4, h5, h6⟩ := h
  exact (refWord_any r G ls ss s w h2 hlen).mono fun e w' ⟨r1, r2, r3⟩ => ⟨r1, PSt.extR h1 r2 r3 h3 h4 h5 h6⟩
theorem len_ps (w0 w : World) (p r : Nat) (sl ss : List ByteArray) (tl ls : List (List Int)) (h : PSt w0 w p r sl tl ls ss) : Calls Try.prog 28 #[.pointer (some ⟨p, 0, none⟩)] w fun e w' => e = .returned (.int .i64 (tl.length : Int)) ∧ w = w' := by
  obtain ⟨F, G, h1, _⟩ := h
  exact len_tab p F sl tl w h1
theorem text_ps (w0 w : World) (p r : Nat) (sl ss : List ByteArray) (tl ls : List (List Int)) (h : PSt w0 w p r sl tl ls ss) (id : Int) : Calls Try.prog 44 #[.pointer (some ⟨p, 0, none⟩), .int .i64 id] w fun e w' => e = .returned (.tuple #[.string (textOf sl id).1, .bool (textOf sl id).2]) ∧ w = w' := by
  obtain ⟨F, G, h1, _⟩ := h
  exact text_tab p F sl tl w h1 id
theorem texts_ps (w0 w : World) (p r : Nat) (sl ss : List ByteArray) (tl ls : List (List Int)) (h : PSt w0 w p r sl tl ls ss) (hb : sl.length ≤ 1000000) : Calls Try.prog 46 #[.pointer (some ⟨p, 0, none⟩)] w fun e w' => ∃ A c, e = .returned (.slice A sl.length c) ∧ sl.length ≤ c ∧ RdS w' A sl ∧ Below w.heap.size w w' := by
  obtain ⟨F, G, h1, _⟩ := h
  exact (texts_tab p F sl tl w h1 hb).mono fun e w' ⟨v, r1, r2, r3⟩ => by
    obtain ⟨A, c, rfl, hc, hr⟩ := Kd.R_reads r2
    exact ⟨A, c, r1, hc, hr, r3⟩
end Go.Proofs.Ytmaoadlighjkpaa.In
