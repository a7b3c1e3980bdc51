/- Both tables, and beside them a slice that the call has made. -/
import Derived.Test.YtmaoadlighjkpaaIm
namespace Go.Proofs.Ytmaoadlighjkpaa.In
open Go.RowKit Go.Proofs.YtmaoadlighjkpaaW.PrintWords Go.Proofs.YtmaoadlighjkpaaW.PrintLast Go.Proofs.YtmaoadlighjkpaaW.PrintMore
open Go.Proofs.Ytmaoadlighjkpaa.Base Go.Proofs.Ytmaoadlighjkpaa.Map Go.Proofs.Ytmaoadlighjkpaa.Ca Go.Proofs.Ytmaoadlighjkpaa.Qu Go.Maps
set_option linter.unusedVariables false

/-- Both tables, made by the call since w0, apart; v a slice of the call's own, apart from both. -/
structure PSo (w0 w : World) (p r : Nat) (sl : List ByteArray) (tl ls : List (List Int)) (ss : List ByteArray) (v : Value) (l : List Int) : Prop where
  mk :: (out : ∃ F G O, TabAt w F p sl tl ∧ RefAt w G r ls ss ∧ (∀ k, F k → ¬ G k) ∧ (∀ k, F k → w0.heap.size ≤ k ∧ k < w.heap.size) ∧ (∀ k, G k → w0.heap.size ≤ k ∧ k < w.heap.size) ∧ Below w0.heap.size w0 w ∧
    OwF w O v l ∧ ∀ k, O k → (w0.heap.size ≤ k ∧ k < w.heap.size) ∧ ¬ F k ∧ ¬ G k)
section
variable {w0 w w1 : World} {p r : Nat} {sl ss : List ByteArray} {tl ls : List (List Int)} {v : Value} {l : List Int}
theorem PSo.st (h : PSo w0 w p r sl tl ls ss v l) : PSt w0 w p r sl tl ls ss := by obtain ⟨F, G, O, h1, h2, h3, h4, h5, h6, _⟩ := h; exact ⟨F, G, h1, h2, h3, h4, h5, h6⟩
theorem PSo.bel (h : PSo w0 w p r sl tl ls ss v l) : Below w0.heap.size w0 w := h.st.bel
theorem PSo.reads (h : PSo w0 w p r sl tl ls ss v l) : RdV w v l := by obtain ⟨F, G, O, _, _, _, _, _, _, h7, _⟩ := h; exact h7.toV
theorem PSo.below (h : PSo w0 w p r sl tl ls ss v l) (hb : Below w.heap.size w w1) : PSo w0 w1 p r sl tl ls ss v l := by
  obtain ⟨F, G, O, h1, h2, h3, h4, h5, h6, h7, h8⟩ := h
  exact ⟨F, G, O, h1.below hb, h2.below hb, h3, fun k hk => ⟨(h4 k hk).1, Nat.lt_of_lt_of_le (h4 k hk).2 hb.size⟩, fun k hk => ⟨(h5 k hk).1, Nat.lt_of_lt_of_le (h5 k hk).2 hb.size⟩, below_then h6 h6.size hb, h7.below hb, fun k hk => ⟨⟨(h8 k hk).1.1, Nat.lt_of_lt_of_le (h8 k hk).1.2 hb.size⟩, (h8 k hk).2⟩⟩
@[simp] theorem PSo.alloc (h : PSo w0 w p r sl tl ls ss v l) (o : Obj) : PSo w0 (w.alloc o) p r sl tl ls ss v l := h.below (below_alloc (Below.refl _ _) o)
@[simp] theorem PSo.drew (h : PSo w0 w p r sl tl ls ss v l) : PSo w0 w.drew p r sl tl ls ss v l := h.below (below_drew (Below.refl _ _))
@[simp] theorem PSo.drewN (h : PSo w0 w p r sl tl ls ss v l) (n : Nat) : PSo w0 (w.drewN n) p r sl tl ls ss v l := h.below (pw_below_drewN (Below.refl _ _) n)
theorem PSo.own (h : PSt w0 w p r sl tl ls ss) (hb : Below w.heap.size w w1) (ho : OwI w1 w.heap.size v l) : PSo w0 w1 p r sl tl ls ss v l := by
  have h' := h.below hb
  obtain ⟨F, G, h1, h2, h3, h4, h5, h6⟩ := h
  have hs := h6.size
  refine ⟨F, G, fun k => w.heap.size ≤ k ∧ k < w1.heap.size, h1.below hb, h2.below hb, h3, fun k hk => ⟨(h4 k hk).1, Nat.lt_of_lt_of_le (h4 k hk).2 hb.size⟩, fun k hk => ⟨(h5 k hk).1, Nat.lt_of_lt_of_le (h5 k hk).2 hb.size⟩, below_then h6 h6.size hb, OwF.of_own ho (fun k h1 h2 => ⟨h1, h2⟩), fun k hk => ⟨⟨by omega, hk.2⟩, fun hf => ?_, fun hg => ?_⟩⟩
  · have := (h4 k hf).2; omega
  · have := (h5 k hg).2; omega
theorem owf_chg {F G : Nat → Prop} (h : OwF w F v l) (hC : Chg G w w1) (hd : ∀ k, F k → ¬ G k) : OwF w1 F v l := ⟨Kd.R_step h.out (fun k hk hlt => hC.block k hlt (hd k hk))⟩
/-- a store into it -/
theorem PSo.put {A : Option Addr} {c : Nat} (h : PSo w0 w p r sl tl ls ss (.slice A l.length c) l) (hl : 0 < l.length) :
    ∃ b, A = some ⟨b, 0, none⟩ ∧ w.cell? ⟨b, 0, none⟩ = some (.int .i64 (rd l 0)) ∧ w.frozen? ⟨b, 0, none⟩ = false ∧ ∀ x : Int, PSt w0 (w.setCell ⟨b, 0, none⟩ (.int .i64 x)) p r sl tl ls ss := by
  obtain ⟨F, G, O, h1, h2, h3, h4, h5, h6, ⟨h7⟩, h8⟩ := h
  obtain ⟨b, cap, he, _, hlt, _⟩ := Kd.R_form h7 hl
  injection he with e1 e2 e3
  subst e1; subst e3
  have hc := Kd.R_cell (0 : Int) h7 0 (by omega) (by omega)
  have hO : O b := h7.1 b (by simp [Value.ownBlock])
  refine ⟨b, rfl, hc.1, hc.2, fun x => ?_⟩
  have hC : Chg (fun k => k = b) w (w.setCell ⟨b, 0, none⟩ (.int .i64 x)) := Chg.setCell (F := fun k => k = b) w (p := ⟨b, 0, none⟩) rfl _
  have hs : (w.setCell ⟨b, 0, none⟩ (.int .i64 x)).heap.size = w.heap.size := by simp [World.setCell]
  exact ⟨F, G, h1.chg hC (fun k hk e => (h8 b hO).2.1 (e ▸ hk)), h2.chg hC (fun k hk e => (h8 b hO).2.2 (e ▸ hk)), h3, fun k hk => by rw [hs]; exact h4 k hk, fun k hk => by rw [hs]; exact h5 k hk, h6.trans (hC.below h6.size (fun k e => e ▸ (h8 b hO).1.1))⟩
theorem PSo.extT {F G O : Nat → Prop} {sl' : List ByteArray} {tl' : List (List Int)} (h1 : TabAt w1 (ext F w w1) p sl' tl') (hC : Chg F w w1) (h2 : RefAt w G r ls ss) (h3 : ∀ k, F k → ¬ G k) (h4 : ∀ k, F k → w0.heap.size ≤ k ∧ k < w.heap.size) (h5 : ∀ k, G k → w0.heap.size ≤ k ∧ k < w.heap.size) (h6 : Below w0.heap.size w0 w)
    (h7 : OwF w O v l) (h8 : ∀ k, O k → (w0.heap.size ≤ k ∧ k < w.heap.size) ∧ ¬ F k ∧ ¬ G k) : PSo w0 w1 p r sl' tl' ls ss v l :=
  ⟨_, G, O, h1, h2.chg hC (fun k hk hf => h3 k hf hk), fun k hk hg => hk.elim (fun h => h3 k h hg) (fun h => by have := (h5 k hg).2; omega),
    fun k hk => hk.elim (fun h => ⟨(h4 k h).1, Nat.lt_of_lt_of_le (h4 k h).2 hC.size⟩) (fun h => ⟨Nat.le_trans h6.size h.1, h.2⟩), fun k hk => ⟨(h5 k hk).1, Nat.lt_of_lt_of_le (h5 k hk).2 hC.size⟩, h6.trans (hC.below h6.size (fun k hk => (h4 k hk).1)),
    owf_chg h7 hC (fun k hk => (h8 k hk).2.1), fun k hk => ⟨⟨(h8 k hk).1.1, Nat.lt_of_lt_of_le (h8 k hk).1.2 hC.size⟩, fun hf => hf.elim (h8 k hk).2.1 (fun h => by have := (h8 k hk).1.2; omega), (h8 k hk).2.2⟩⟩
theorem PSo.extR {F G O : Nat → Prop} {ls' : List (List Int)} {ss' : List ByteArray} (h1 : TabAt w F p sl tl) (h2 : RefAt w1 (ext G w w1) r ls' ss') (hC : Chg G w w1) (h3 : ∀ k, F k → ¬ G k) (h4 : ∀ k, F k → w0.heap.size ≤ k ∧ k < w.heap.size) (h5 : ∀ k, G k → w0.heap.size ≤ k ∧ k < w.heap.size) (h6 : Below w0.heap.size w0 w)
    (h7 : OwF w O v l) (h8 : ∀ k, O k → (w0.heap.size ≤ k ∧ k < w.heap.size) ∧ ¬ F k ∧ ¬ G k) : PSo w0 w1 p r sl tl ls' ss' v l :=
  ⟨F, _, O, h1.chg hC h3, h2, fun k hk hg => hg.elim (fun h => h3 k hk h) (fun h => by have := (h4 k hk).2; omega),
    fun k hk => ⟨(h4 k hk).1, Nat.lt_of_lt_of_le (h4 k hk).2 hC.size⟩, fun k hk => hk.elim (fun h => ⟨(h5 k h).1, Nat.lt_of_lt_of_le (h5 k h).2 hC.size⟩) (fun h => ⟨Nat.le_trans h6.size h.1, h.2⟩), h6.trans (hC.below h6.size (fun k hk => (h5 k hk).1)),
    owf_chg h7 hC (fun k hk => (h8 k hk).2.2), fun k hk => ⟨⟨(h8 k hk).1.1, Nat.lt_of_lt_of_le (h8 k hk).1.2 hC.size⟩, (h8 k hk).2.1, fun hf => hf.elim (h8 k hk).2.2 (fun h => by have := (h8 k hk).1.2; omega)⟩⟩
end
theorem id_pso (w0 w : World) (p r : Nat) (sl ss : List ByteArray) (tl ls : List (List Int)) (v : Value) (l : List Int) (h : PSo w0 w p r sl tl ls ss v l) (hw : ∀ x ∈ l, (Lit.int .i64 x).wf = true) (hlen : tl.length ≤ 1000000) :
    Calls Try.prog 27 #[.pointer (some ⟨p, 0, none⟩), v] w fun e w' => e = .returned (.int .i64 (idOf tl l)) ∧ PSo w0 w' p r sl (idL tl l) ls ss v l := by
  have hu := h.reads
  obtain ⟨F, G, O, h1, h2, h3, h4, h5, h6, h7, h8⟩ := h
  exact (id_any p F sl tl v l w h1 hu hw hlen).mono fun e w' ⟨r1, r2, r3⟩ => ⟨r1, PSo.extT r2 r3 h2 h3 h4 h5 h6 h7 h8⟩
theorem refId_pso (w0 w : World) (p r : Nat) (sl ss : List ByteArray) (tl ls : List (List Int)) (v u : Value) (l ns : List Int) (h : PSo w0 w p r sl tl ls ss v l) (hu : RdV w u ns) (hlen : ls.length ≤ 1000000) :
    Calls Try.prog 38 #[.pointer (some ⟨r, 0, none⟩), u] w fun e w' => e = .returned (.int .i64 (idOf ls ns)) ∧ PSo w0 w' p r sl tl (idL ls ns) ss v l := by
  obtain ⟨F, G, O, h1, h2, h3, h4, h5, h6, h7, h8⟩ := h
  exact (refId_any r G ls ss u ns w h2 (fun k hk => (h5 k hk).2) hu hlen).mono fun e w' ⟨r1, r2, r3⟩ => ⟨r1, PSo.extR h1 r2 r3 h3 h4 h5 h6 h7 h8⟩
theorem find_ps (w0 w : World) (p r : Nat) (sl ss : List ByteArray) (tl ls : List (List Int)) (u : Value) (ns : List Int) (h : PSt w0 w p r sl tl ls ss) (hu : RdV w u ns) (hw : ∀ x ∈ ns, (Lit.int .i64 x).wf = true) :
    Calls Try.prog 40 #[.pointer (some ⟨p, 0, none⟩), u] w fun e w' => e = .returned (.tuple #[.int .i64 (findOf tl ns).1, .bool (findOf tl ns).2]) ∧ Below w.heap.size w w' := by
  obtain ⟨F, G, h1, _⟩ := h
  exact find_any p F sl tl u ns w h1 hu hw
theorem tuple_ps (w0 w : World) (p r : Nat) (sl ss : List ByteArray) (tl ls : List (List Int)) (h : PSt w0 w p r sl tl ls ss) (id : Int) :
    Calls Try.prog 39 #[.pointer (some ⟨p, 0, none⟩), .int .i64 id] w fun e w' => ∃ v, e = .returned v ∧ OwI w' w.heap.size v (tupleOf tl id) ∧ Below w.heap.size w w' := by
  obtain ⟨F, G, h1, _⟩ := h
  exact tuple_tab p F sl tl w h1 id
theorem refFind_ps (w0 w : World) (p r : Nat) (sl ss : List ByteArray) (tl ls : List (List Int)) (u : Value) (ns : List Int) (h : PSt w0 w p r sl tl ls ss) (hu : RdV w u ns) :
    Calls Try.prog 41 #[.pointer (some ⟨r, 0, none⟩), u] w fun e w' => e = .returned (.int .i64 (seekOf ls ns)) ∧ Below w.heap.size w w' := by
  obtain ⟨F, G, _, h2, _⟩ := h
  exact refFind_any r G ls ss u ns w h2 hu
/-- the document's list, read -/
theorem PSt.list {w0 w : World} {p r : Nat} {sl ss : List ByteArray} {tl ls : List (List Int)} (h : PSt w0 w p r sl tl ls ss) : ∃ A c, w.cell? ⟨r, 0, none⟩ = some (.slice A ls.length c) ∧ ls.length ≤ c ∧ RdR w A ls ∧ ⟨r, 0, none⟩ = (⟨r, 0, none⟩ : Addr) := by
  obtain ⟨F, G, _, ⟨vL, vT, hb, hL, _⟩, _⟩ := h
  obtain ⟨A, c, rfl, hc, hr⟩ := Kd.R_reads hL
  exact ⟨A, c, blk_cell hb 0, hc, hr, rfl⟩
theorem TabAt.oks {w : World} {F : Nat → Prop} {p : Nat} {sl : List ByteArray} {tl : List (List Int)} (h : TabAt w F p sl tl) : ∀ x ∈ tl, tOk x := by
  obtain ⟨vt, vs, mw, mi, fw, fi, _, _, hS, _⟩ := h
  obtain ⟨A, c, rfl, _, hr⟩ := Kd.R_reads hS
  intro x hx
  obtain ⟨i, hi, rfl⟩ := List.getElem_of_mem hx
  obtain ⟨ad, _, hok, _⟩ := tup_at hr i hi
  simpa [hi] using hok
end Go.Proofs.Ytmaoadlighjkpaa.In
