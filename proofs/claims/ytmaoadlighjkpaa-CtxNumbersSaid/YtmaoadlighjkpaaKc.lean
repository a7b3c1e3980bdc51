/- A ctx.Table beside the law's own two lists; the document's Find. -/
import Derived.Test.YtmaoadlighjkpaaKb
import Derived.Test.YtmaoadlighjkpaaIh
namespace Go.Proofs.Ytmaoadlighjkpaa.Kx
open Go.RowKit Go.Proofs.YtmaoadlighjkpaaW.PrintWords Go.Proofs.YtmaoadlighjkpaaW.PrintLast Go.Proofs.YtmaoadlighjkpaaW.PrintMore
open Go.Proofs.Ytmaoadlighjkpaa.Base Go.Proofs.Ytmaoadlighjkpaa.Map Go.Proofs.Ytmaoadlighjkpaa.Ca Go.Proofs.Ytmaoadlighjkpaa.Qu Go.Proofs.Ytmaoadlighjkpaa.In Go.Maps
open Go.Proofs.Ytmaoadlighjkpaa.PCtxNumbers
set_option linter.unusedVariables false

/-- where it stands first; -1: nowhere -/
def seekK (ls : List (List Int)) (ns : List Int) : Int := if ns ∈ ls then (place ls ns : Int) else -1
theorem seekK_at {ls : List (List Int)} {ns : List Int} (i : Nat) (hi : i < ls.length) (he : ls[i] = ns) (hn : ∀ j (h : j < ls.length), j < i → ls[j] ≠ ns) : seekK ls ns = (i : Int) := by
  unfold seekK
  rw [if_pos (he ▸ List.getElem_mem hi), place_first hi he hn]
theorem seekK_no {ls : List (List Int)} {ns : List Int} (hn : ∀ j (h : j < ls.length), ls[j] ≠ ns) : seekK ls ns = -1 := by
  unfold seekK
  rw [if_neg (fun hm => by
    obtain ⟨k, hk, he⟩ := List.getElem_of_mem hm
    exact hn k hk he)]
theorem sameK1 (l m : List Int) (hmax : l.length ≤ 9223372036854775807) (k : Nat) (hk : l.length < k) : winnowerref01_Same.f k l m = some (decide (l = m)) := by
  unfold winnowerref01_Same.f
  by_cases h : l.length = m.length
  · rw [if_pos (by omega)]
    have := same_loop l m h hmax l.length k 0 (by omega) hk
    rw [Int.natCast_zero] at this
    rw [this]
    simp only [List.drop_zero]
  · rw [if_neg (by omega)]
    have : l ≠ m := fun e => h (by rw [e])
    simp [this]
theorem sameK_f (s : Int) (ns : List Int) (t : Int) (ms : List Int) (hl : ns.length ≤ 9223372036854775807) (k : Nat) (hk : ns.length < k) : winnowerref16_Same.f k s ns t ms = some (decide (s = t ∧ ns = ms)) := by
  unfold winnowerref16_Same.f
  by_cases e : s = t
  · rw [if_pos e, sameK1 ns ms hl k hk]; simp [e]
  · rw [if_neg e]; simp [e]
theorem sameO_any (s : Int) (u : Value) (ns : List Int) (t : Int) (v : Value) (ms : List Int) (w : World) (hu : RdV w u ns) (hv : RdV w v ms) :
    Calls Try.prog 61 #[.agg #[.int .i64 s, u], .agg #[.int .i64 t, v]] w fun e w' => e = .returned (.bool (decide (s = t ∧ ns = ms))) ∧ Below w.heap.size w w' := by
  obtain ⟨A, c, rfl, hc, hr⟩ := hu
  obtain ⟨B, d, rfl, hd, hr2⟩ := hv
  exact winnowerref16_Same.calls (ns.length + 1) s A c ns t B d ms _ w hr.out hc hr2.out hd (sameK_f s ns t ms hr.max _ (by omega))
theorem findK_loop (xs : List S26) (s : Int) (ns : List Int) (g : S26 → List Int) (key : List Int) (hg : ∀ x ∈ xs, (x.f0 = s ∧ x.f1 = ns) ↔ g x = key) (B : Nat) (hB : ∀ x ∈ xs, x.f1.length ≤ B) (hB2 : B ≤ 1000000) (hm : xs.length ≤ 1000000) (d : Nat) :
    ∀ (k i : Nat), i + d = xs.length → d + B + 1 < k → (∀ j (h : j < xs.length), j < i → g xs[j] ≠ key) → winnowerref16_Find.l0 k xs i s ns = some (seekK (xs.map g) key) := by
  induction d with
  | zero =>
    intro k i hi hk hp
    obtain ⟨k, rfl⟩ : ∃ n, k = n + 1 := ⟨k - 1, by omega⟩
    simp only [winnowerref16_Find.l0]
    rw [if_neg (by omega), seekK_no (fun j hj => by rw [List.getElem_map]; rw [List.length_map] at hj; exact hp j hj (by omega))]
  | succ d ih =>
    intro k i hi hk hp
    obtain ⟨k, rfl⟩ : ∃ n, k = n + 1 := ⟨k - 1, by omega⟩
    simp only [winnowerref16_Find.l0]
    have hlt : i < xs.length := by omega
    have hrd : rd_T26 xs (i : Int) = xs[i] := by unfold rd_T26; rw [Int.toNat_natCast, List.getD_eq_getElem?_getD, List.getElem?_eq_getElem hlt]; rfl
    have hx := hB _ (List.getElem_mem hlt)
    rw [if_pos (by omega), if_pos (by omega), hrd, sameK_f _ _ s ns (by omega) k (by omega)]
    simp only [Option.bind_some, decide_eq_true_eq]
    by_cases e : xs[i].f0 = s ∧ xs[i].f1 = ns
    · rw [if_pos e, seekK_at (ls := xs.map g) i (by rw [List.length_map]; exact hlt) (by rw [List.getElem_map]; exact (hg _ (List.getElem_mem hlt)).1 e) (fun j h hj => by rw [List.getElem_map]; rw [List.length_map] at h; exact hp j h hj)]
    · rw [if_neg e]
      have hw : wrap64 ((i : Int) + 1) = ((i + 1 : Nat) : Int) := by unfold wrap64; omega
      rw [hw]
      refine ih k (i + 1) (by omega) (by omega) (fun j h hj => ?_)
      rcases Nat.lt_or_ge j i with h1 | h1
      · exact hp j h h1
      · obtain rfl : j = i := by omega
        exact fun e2 => e ((hg _ (List.getElem_mem hlt)).2 e2)
theorem findK_any (A : Option Addr) (c : Nat) (xs : List S26) (s : Int) (u : Value) (ns : List Int) (g : S26 → List Int) (key : List Int) (w : World) (hr : Kd.C k26 w A xs.length xs) (hc : xs.length ≤ c) (hu : RdV w u ns) (hg : ∀ x ∈ xs, (x.f0 = s ∧ x.f1 = ns) ↔ g x = key) (B : Nat) (hB : ∀ x ∈ xs, x.f1.length ≤ B) (hB2 : B ≤ 1000000) (hm : xs.length ≤ 1000000) :
    Calls Try.prog 58 #[.slice A xs.length c, .agg #[.int .i64 s, u]] w fun e w' => e = .returned (.int .i64 (seekK (xs.map g) key)) ∧ Below w.heap.size w w' := by
  obtain ⟨D, d, rfl, hd, hr2⟩ := hu
  refine winnowerref16_Find.calls (xs.length + B + 2) A c xs s D d ns _ w hr hc hr2.out hd ?_
  unfold winnowerref16_Find.f
  exact findK_loop xs s ns g key hg B hB hB2 hm xs.length _ 0 (by omega) (by omega) (fun j h hj => absurd hj (Nat.not_lt_zero j))

/-- elements that read in the first world -/
abbrev kF (w0 : World) : Kd S26 := Kd.fixed k26 w0
theorem row_chg {w0 w w1 : World} {base : Nat} {v : Value} {xs : List S26} {G : Nat → Prop} (h : Kd.R (kF w0) 26 w base (fun _ => True) v xs) (hC : Chg G w w1) (hd : ∀ k, v.ownBlock = some k → ¬ G k) : Kd.R (kF w0) 26 w1 base (fun _ => True) v xs :=
  Kd.R_mono (Kd.R_step (Kd.R_tight rfl h) (fun k hk hlt => hC.block k hlt (hd k hk.symm))) (fun _ _ => trivial)
theorem row_rd {w0 w : World} {base : Nat} {A : Option Addr} {n c : Nat} {xs : List S26} (h : Kd.R (kF w0) 26 w base (fun _ => True) (.slice A n c) xs) (hb : Below w0.heap.size w0 w) : n = xs.length ∧ n ≤ c ∧ Kd.C k26 w A xs.length xs := by
  obtain ⟨h1, h2, h3⟩ := Kd.R_reads' h
  refine ⟨h1, h2, h3.1, h3.2.1, fun hp => ?_⟩
  obtain ⟨a, ha, hat⟩ := h3.2.2 hp
  refine ⟨a, ha, fun j p hj => ?_⟩
  obtain ⟨cs, hcl, hK, hcc⟩ := hat j p hj
  exact ⟨cs, hcl, k26.K_below hb hK, hcc⟩

/-- Both tables of a ctx.Table, and the law's two lists beside them, all made by the call since w0, apart. -/
structure CN (w0 w : World) (q p1 p2 : Nat) (cl ol : List (List Int)) (vo vc : Value) (os cs : List S26) (bs : List (Nat × Obj)) : Prop where
  mk :: (out : ∃ F G, TabAt w F p1 [] cl ∧ TabAt w G p2 [] ol ∧ (∀ k, F k → ¬ G k) ∧ (∀ k, F k → w0.heap.size ≤ k ∧ k < w.heap.size) ∧ (∀ k, G k → w0.heap.size ≤ k ∧ k < w.heap.size) ∧ Below w0.heap.size w0 w ∧
    w.heap[q]? = some (.cells #[.pointer (some ⟨p1, 0, none⟩), .pointer (some ⟨p2, 0, none⟩)] 96 (0, 0)) ∧ w0.heap.size ≤ q ∧ ¬ F q ∧ ¬ G q ∧
    Kd.R (kF w0) 26 w w0.heap.size (fun _ => True) vo os ∧ Kd.R (kF w0) 26 w w0.heap.size (fun _ => True) vc cs ∧ (∀ k, vo.ownBlock = some k → ¬ F k ∧ ¬ G k ∧ vc.ownBlock ≠ some k) ∧ (∀ k, vc.ownBlock = some k → ¬ F k ∧ ¬ G k) ∧
    ∀ x ∈ bs, w.heap[x.1]? = some x.2 ∧ w0.heap.size ≤ x.1 ∧ ¬ F x.1 ∧ ¬ G x.1 ∧ vo.ownBlock ≠ some x.1 ∧ vc.ownBlock ≠ some x.1 ∧ x.1 ≠ q)
section
variable {w0 w w1 : World} {q p1 p2 : Nat} {cl ol : List (List Int)} {vo vc : Value} {os cs : List S26} {bs : List (Nat × Obj)}
theorem CN.bel (h : CN w0 w q p1 p2 cl ol vo vc os cs bs) : Below w0.heap.size w0 w := by obtain ⟨F, G, _, _, _, _, _, h, _⟩ := h; exact h
theorem CN.at_ (h : CN w0 w q p1 p2 cl ol vo vc os cs bs) : w.cell? ⟨q, 0, none⟩ = some (.pointer (some ⟨p1, 0, none⟩)) ∧ w.cell? ⟨q, 1, none⟩ = some (.pointer (some ⟨p2, 0, none⟩)) := by
  obtain ⟨F, G, _, _, _, _, _, _, h, _⟩ := h
  exact ⟨blk_cell h 0, blk_cell h 1⟩
theorem CN.rows (h : CN w0 w q p1 p2 cl ol vo vc os cs bs) : Kd.R (kF w0) 26 w w0.heap.size (fun _ => True) vo os ∧ Kd.R (kF w0) 26 w w0.heap.size (fun _ => True) vc cs := by
  obtain ⟨F, G, _, _, _, _, _, _, _, _, _, _, h1, h2, _⟩ := h
  exact ⟨h1, h2⟩
theorem CN.tabs (h : CN w0 w q p1 p2 cl ol vo vc os cs bs) : (∃ F, TabAt w F p1 [] cl) ∧ ∃ G, TabAt w G p2 [] ol := by
  obtain ⟨F, G, h1, h2, _⟩ := h
  exact ⟨⟨F, h1⟩, ⟨G, h2⟩⟩
theorem CN.below (h : CN w0 w q p1 p2 cl ol vo vc os cs bs) (hb : Below w.heap.size w w1) : CN w0 w1 q p1 p2 cl ol vo vc os cs bs := by
  obtain ⟨F, G, h1, h2, h3, h4, h5, h6, h7, h8, h9, h10, h11, h12, h13, h14, h15⟩ := h
  exact ⟨F, G, h1.below hb, h2.below hb, h3, fun k hk => ⟨(h4 k hk).1, Nat.lt_of_lt_of_le (h4 k hk).2 hb.size⟩, fun k hk => ⟨(h5 k hk).1, Nat.lt_of_lt_of_le (h5 k hk).2 hb.size⟩, below_then h6 h6.size hb, Qu.blk_below h7 hb, h8, h9, h10, Kd.R_below h11 hb, Kd.R_below h12 hb, h13, h14, fun x hx => ⟨Qu.blk_below (h15 x hx).1 hb, (h15 x hx).2⟩⟩
@[simp] theorem CN.alloc (h : CN w0 w q p1 p2 cl ol vo vc os cs bs) (o : Obj) : CN w0 (w.alloc o) q p1 p2 cl ol vo vc os cs bs := h.below (below_alloc (Below.refl _ _) o)
@[simp] theorem CN.drew (h : CN w0 w q p1 p2 cl ol vo vc os cs bs) : CN w0 w.drew q p1 p2 cl ol vo vc os cs bs := h.below (below_drew (Below.refl _ _))
@[simp] theorem CN.drewN (h : CN w0 w q p1 p2 cl ol vo vc os cs bs) (n : Nat) : CN w0 (w.drewN n) q p1 p2 cl ol vo vc os cs bs := h.below (pw_below_drewN (Below.refl _ _) n)
theorem CN.few {bs' : List (Nat × Obj)} (h : CN w0 w q p1 p2 cl ol vo vc os cs bs) (hb : ∀ x ∈ bs', x ∈ bs) : CN w0 w q p1 p2 cl ol vo vc os cs bs' := by
  obtain ⟨F, G, h1, h2, h3, h4, h5, h6, h7, h8, h9, h10, h11, h12, h13, h14, h15⟩ := h
  exact ⟨F, G, h1, h2, h3, h4, h5, h6, h7, h8, h9, h10, h11, h12, h13, h14, fun x hx => h15 x (hb x hx)⟩
/-- a block that the law has made -/
theorem CN.box (h : CN w0 w q p1 p2 cl ol vo vc os cs bs) (hb : Below w.heap.size w w1) {b : Nat} {o : Obj} (ho : w1.heap[b]? = some o) (hn : w.heap.size ≤ b) : CN w0 w1 q p1 p2 cl ol vo vc os cs ((b, o) :: bs) := by
  obtain ⟨F, G, h1, h2, h3, h4, h5, h6, h7, h8, h9, h10, h11, h12, h13, h14, h15⟩ := h.below hb
  have hl := h
  obtain ⟨F', G', g1, g2, g3, g4, g5, g6, g7, g8, g9, g10, g11, g12, g13, g14, g15⟩ := h
  refine ⟨F', G', g1.below hb, g2.below hb, g3, fun k hk => ⟨(g4 k hk).1, Nat.lt_of_lt_of_le (g4 k hk).2 hb.size⟩, fun k hk => ⟨(g5 k hk).1, Nat.lt_of_lt_of_le (g5 k hk).2 hb.size⟩, below_then g6 g6.size hb, Qu.blk_below g7 hb, g8, g9, g10, Kd.R_below g11 hb, Kd.R_below g12 hb, g13, g14, fun x hx => ?_⟩
  rcases List.mem_cons.1 hx with rfl | hx
  · exact ⟨ho, Nat.le_trans g6.size hn, fun hf => by have := (g4 _ hf).2; omega, fun hf => by have := (g5 _ hf).2; omega, fun e => by have := Kd.R_lt g11 _ e; omega, fun e => by have := Kd.R_lt g12 _ e; omega, fun e => by have := blk_lt g7; have e2 : b = q := e; omega⟩
  · exact ⟨Qu.blk_below (g15 x hx).1 hb, (g15 x hx).2⟩
theorem CN.in_ (h : CN w0 w q p1 p2 cl ol vo vc os cs bs) {b : Nat} {o : Obj} (hx : (b, o) ∈ bs) : w.heap[b]? = some o := by
  obtain ⟨F, G, h1, h2, h3, h4, h5, h6, h7, h8, h9, h10, h11, h12, h13, h14, h15⟩ := h
  exact (h15 _ hx).1
end
theorem ctx_cn (w0 w : World) (q p1 p2 : Nat) (cl ol : List (List Int)) (vo vc : Value) (os cs : List S26) (bs : List (Nat × Obj)) (u : Value) (ns : List Int) (h : CN w0 w q p1 p2 cl ol vo vc os cs bs) (hu : RdV w u ns) (hw : ∀ x ∈ ns, (Lit.int .i64 x).wf = true) (hlen : cl.length ≤ 1000000) :
    Calls Try.prog 57 #[.agg #[.pointer (some ⟨p1, 0, none⟩)], u] w fun e w' => e = .returned (.int .i64 (ctxId cl ns)) ∧ CN w0 w' q p1 p2 (ctxT cl ns) ol vo vc os cs bs := by
  obtain ⟨F, G, h1, h2, h3, h4, h5, h6, h7, h8, h9, h10, h11, h12, h13, h14, h15⟩ := h
  refine (ctx_any p1 F [] cl u ns w h1 (fun k hk => (h4 k hk).2) hu hw hlen).mono fun e w' ⟨r1, r2, r3⟩ => ⟨r1, _, G, r2, h2.chg r3 (fun k hg hf => h3 k hf hg), ?_, ?_, fun k hk => ⟨(h5 k hk).1, Nat.lt_of_lt_of_le (h5 k hk).2 r3.size⟩, h6.trans (r3.below h6.size (fun k hk => (h4 k hk).1)), r3.blk h7 h9, h8, ?_, h10, row_chg h11 r3 (fun k hk => (h13 k hk).1), row_chg h12 r3 (fun k hk => (h14 k hk).1), ?_, ?_, fun x hx => ⟨r3.blk (h15 x hx).1 (h15 x hx).2.2.1, (h15 x hx).2.1, fun hf => hf.elim (h15 x hx).2.2.1 (fun h => by have := blk_lt (h15 x hx).1; omega), (h15 x hx).2.2.2⟩⟩
  · exact fun k hk hg => hk.elim (fun h => h3 k h hg) (fun h => by have := (h5 k hg).2; omega)
  · exact fun k hk => hk.elim (fun h => ⟨(h4 k h).1, Nat.lt_of_lt_of_le (h4 k h).2 r3.size⟩) (fun h => ⟨Nat.le_trans h6.size h.1, h.2⟩)
  · exact fun hk => hk.elim h9 (fun h => by have := blk_lt h7; omega)
  · exact fun k hk => ⟨fun hf => hf.elim (h13 k hk).1 (fun h => by have := Kd.R_lt h11 k hk; omega), (h13 k hk).2⟩
  · exact fun k hk => ⟨fun hf => hf.elim (h14 k hk).1 (fun h => by have := Kd.R_lt h12 k hk; omega), (h14 k hk).2⟩
theorem obj_cn (w0 w : World) (q p1 p2 : Nat) (cl ol : List (List Int)) (vo vc : Value) (os cs : List S26) (bs : List (Nat × Obj)) (site : Int) (u : Value) (ns : List Int) (h : CN w0 w q p1 p2 cl ol vo vc os cs bs) (hu : RdV w u ns) (hs : (Lit.int .i64 site).wf = true) (hw : ∀ x ∈ ns, (Lit.int .i64 x).wf = true) (hlen : ol.length ≤ 1000000) :
    Calls Try.prog 56 #[.agg #[.pointer (some ⟨p2, 0, none⟩)], .agg #[.int .i64 site, u]] w fun e w' => e = .returned (.int .i64 (objId ol site ns)) ∧ CN w0 w' q p1 p2 cl (objT ol site ns) vo vc os cs bs := by
  obtain ⟨F, G, h1, h2, h3, h4, h5, h6, h7, h8, h9, h10, h11, h12, h13, h14, h15⟩ := h
  refine (obj_any p2 G [] ol site u ns w h2 (fun k hk => (h5 k hk).2) hu hs hw hlen).mono fun e w' ⟨r1, r2, r3⟩ => ⟨r1, F, _, h1.chg r3 h3, r2, ?_, fun k hk => ⟨(h4 k hk).1, Nat.lt_of_lt_of_le (h4 k hk).2 r3.size⟩, ?_, h6.trans (r3.below h6.size (fun k hk => (h5 k hk).1)), r3.blk h7 h10, h8, h9, ?_, row_chg h11 r3 (fun k hk => (h13 k hk).2.1), row_chg h12 r3 (fun k hk => (h14 k hk).2), ?_, ?_, fun x hx => ⟨r3.blk (h15 x hx).1 (h15 x hx).2.2.2.1, (h15 x hx).2.1, (h15 x hx).2.2.1, fun hf => hf.elim (h15 x hx).2.2.2.1 (fun h => by have := blk_lt (h15 x hx).1; omega), (h15 x hx).2.2.2.2⟩⟩
  · exact fun k hk hg => hg.elim (fun h => h3 k hk h) (fun h => by have := (h4 k hk).2; omega)
  · exact fun k hk => hk.elim (fun h => ⟨(h5 k h).1, Nat.lt_of_lt_of_le (h5 k h).2 r3.size⟩) (fun h => ⟨Nat.le_trans h6.size h.1, h.2⟩)
  · exact fun hk => hk.elim h10 (fun h => by have := blk_lt h7; omega)
  · exact fun k hk => ⟨(h13 k hk).1, fun hf => hf.elim (h13 k hk).2.1 (fun h => by have := Kd.R_lt h11 k hk; omega), (h13 k hk).2.2⟩
  · exact fun k hk => ⟨(h14 k hk).1, fun hf => hf.elim (h14 k hk).2 (fun h => by have := Kd.R_lt h12 k hk; omega)⟩
/-- one more in the first list, in the second -/
theorem CN.pushO {w0 w w1 : World} {q p1 p2 : Nat} {cl ol : List (List Int)} {vo vc v1 : Value} {os cs os' : List S26} {bs : List (Nat × Obj)} (h : CN w0 w q p1 p2 cl ol vo vc os cs bs) (hR : Kd.R (kF w0) 26 w1 w0.heap.size (fun _ => True) v1 os') (hg : w.grownBy w1 vo.ownBlock) (hat : v1.ownBlock = vo.ownBlock ∨ ∃ b, v1.ownBlock = some b ∧ w.heap.size ≤ b) : CN w0 w1 q p1 p2 cl ol v1 vc os' cs bs := by
  obtain ⟨F, G, h1, h2, h3, h4, h5, h6, h7, h8, h9, h10, h11, h12, h13, h14, h15⟩ := h
  have hC : Chg (fun k => vo.ownBlock = some k) w w1 := Chg.of_grown hg (fun k hk => hk)
  have far : ∀ k, k < w.heap.size → vo.ownBlock ≠ some k → v1.ownBlock ≠ some k := fun k hk hn e => by
    rcases hat with e1 | ⟨b, e1, hb⟩
    · exact hn (e1.symm.trans e)
    · rw [e1] at e; injection e with e; omega
  refine ⟨F, G, h1.chg hC (fun k hk e => (h13 k e).1 hk), h2.chg hC (fun k hk e => (h13 k e).2.1 hk), h3, fun k hk => ⟨(h4 k hk).1, Nat.lt_of_lt_of_le (h4 k hk).2 hC.size⟩, fun k hk => ⟨(h5 k hk).1, Nat.lt_of_lt_of_le (h5 k hk).2 hC.size⟩, h6.trans (hC.below h6.size (fun k hk => Kd.R_base h11 k hk)), hC.blk h7 (fun e => Kd.R_ne h11 h7 (by decide) e.symm), h8, h9, h10, hR, row_chg h12 hC (fun k hk e => (h13 k e).2.2 hk), fun k hk => ⟨fun hf => far k (h4 k hf).2 (fun e => (h13 k e).1 hf) hk, fun hf => far k (h5 k hf).2 (fun e => (h13 k e).2.1 hf) hk, fun e => far k (Kd.R_lt h12 k e) (fun e2 => (h13 k e2).2.2 e) hk⟩, h14, fun x hx => ⟨hC.blk (h15 x hx).1 (h15 x hx).2.2.2.2.1, (h15 x hx).2.1, (h15 x hx).2.2.1, (h15 x hx).2.2.2.1, far x.1 (blk_lt (h15 x hx).1) (h15 x hx).2.2.2.2.1, (h15 x hx).2.2.2.2.2⟩⟩
theorem CN.pushC {w0 w w1 : World} {q p1 p2 : Nat} {cl ol : List (List Int)} {vo vc v1 : Value} {os cs cs' : List S26} {bs : List (Nat × Obj)} (h : CN w0 w q p1 p2 cl ol vo vc os cs bs) (hR : Kd.R (kF w0) 26 w1 w0.heap.size (fun _ => True) v1 cs') (hg : w.grownBy w1 vc.ownBlock) (hat : v1.ownBlock = vc.ownBlock ∨ ∃ b, v1.ownBlock = some b ∧ w.heap.size ≤ b) : CN w0 w1 q p1 p2 cl ol vo v1 os cs' bs := by
  obtain ⟨F, G, h1, h2, h3, h4, h5, h6, h7, h8, h9, h10, h11, h12, h13, h14, h15⟩ := h
  have hC : Chg (fun k => vc.ownBlock = some k) w w1 := Chg.of_grown hg (fun k hk => hk)
  have far : ∀ k, k < w.heap.size → vc.ownBlock ≠ some k → v1.ownBlock ≠ some k := fun k hk hn e => by
    rcases hat with e1 | ⟨b, e1, hb⟩
    · exact hn (e1.symm.trans e)
    · rw [e1] at e; injection e with e; omega
  refine ⟨F, G, h1.chg hC (fun k hk e => (h14 k e).1 hk), h2.chg hC (fun k hk e => (h14 k e).2 hk), h3, fun k hk => ⟨(h4 k hk).1, Nat.lt_of_lt_of_le (h4 k hk).2 hC.size⟩, fun k hk => ⟨(h5 k hk).1, Nat.lt_of_lt_of_le (h5 k hk).2 hC.size⟩, h6.trans (hC.below h6.size (fun k hk => Kd.R_base h12 k hk)), hC.blk h7 (fun e => Kd.R_ne h12 h7 (by decide) e.symm), h8, h9, h10, row_chg h11 hC (fun k hk e => (h13 k hk).2.2 e), hR, fun k hk => ⟨(h13 k hk).1, (h13 k hk).2.1, far k (Kd.R_lt h11 k hk) (h13 k hk).2.2⟩, fun k hk => ⟨fun hf => far k (h4 k hf).2 (fun e => (h14 k e).1 hf) hk, fun hf => far k (h5 k hf).2 (fun e => (h14 k e).2 hf) hk⟩, fun x hx => ⟨hC.blk (h15 x hx).1 (h15 x hx).2.2.2.2.2.1, (h15 x hx).2.1, (h15 x hx).2.2.1, (h15 x hx).2.2.2.1, (h15 x hx).2.2.2.2.1, far x.1 (blk_lt (h15 x hx).1) (h15 x hx).2.2.2.2.2.1, (h15 x hx).2.2.2.2.2.2⟩⟩

set_option maxHeartbeats 1000000 in
set_option maxRecDepth 100000 in
theorem new_cn (w0 w : World) (hb : Below w0.heap.size w0 w) : Calls Try.prog 55 #[] w fun e w' => ∃ q p1 p2, e = .returned (.pointer (some ⟨q, 0, none⟩)) ∧ CN w0 w' q p1 p2 [] [] (.slice none 0 0) (.slice none 0 0) [] [] [] := by
  go_enter Try.func55, Try.ntmps55
  go_wp2_with fail
  refine (new_tab w).mono ?_
  rintro e w1 ⟨rfl, h1, b1⟩
  generalize hp1 : w.heap.size + 2 = p1 at *
  go_wp2_with fail
  refine (new_tab w1).mono ?_
  rintro e w2 ⟨rfl, h2, b2⟩
  generalize hp2 : w1.heap.size + 2 = p2 at *
  go_wp2
  go_ret
  have b3 := below_alloc (Below.refl w2.heap.size w2) (.cells #[.pointer (some ⟨p1, 0, none⟩), .pointer (some ⟨p2, 0, none⟩)] 96)
  have hB := below_then (below_then (below_then hb hb.size b1) (Nat.le_trans hb.size b1.size) b2) (Nat.le_trans (Nat.le_trans hb.size b1.size) b2.size) b3
  have s0 := hb.size
  have s1 := b1.size
  have s2 := b2.size
  refine ⟨_, p1, p2, rfl, _, _, (h1.below b2).below b3, h2.below b3, fun k hk hg => by have := hk.2; have := hg.1; omega, fun k hk => ⟨by have := hk.1; omega, by have := hk.2; simp; omega⟩, fun k hk => ⟨by have := hk.1; omega, by have := hk.2; simp; omega⟩, hB, heap_alloc_new _ _, by omega, fun h => by have := h.2; omega, fun h => by have := h.2; omega, Kd.R_nil _ _ _ _ _, Kd.R_nil _ _ _ _ _, (fun k hk => by simp [Value.ownBlock] at hk), (fun k hk => by simp [Value.ownBlock] at hk), (fun x hx => by cases hx)⟩
end Go.Proofs.Ytmaoadlighjkpaa.Kx
