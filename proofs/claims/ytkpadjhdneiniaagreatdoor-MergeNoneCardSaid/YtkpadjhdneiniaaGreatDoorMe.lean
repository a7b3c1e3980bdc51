/- merge.Map. -/
import Derived.Test.YtkpadjhdneiniaaGreatDoorMc
namespace Go.Proofs.YtkpadjhdneiniaaGreatDoor.Am
set_option linter.unusedVariables false
open Go.RowKit Go.Proofs.YtkpadjhdneiniaaGreatDoorW.PrintWords Go.Proofs.YtkpadjhdneiniaaGreatDoorW.PrintLast Go.Proofs.YtkpadjhdneiniaaGreatDoorW.PrintMore Go.Maps
open Go.Proofs.YtkpadjhdneiniaaGreatDoor.Base Go.Proofs.YtkpadjhdneiniaaGreatDoor.Map Go.Proofs.YtkpadjhdneiniaaGreatDoor.Sl Go.Proofs.YtkpadjhdneiniaaGreatDoor.Ow Go.Proofs.YtkpadjhdneiniaaGreatDoor.Se Go.Proofs.YtkpadjhdneiniaaGreatDoor.Gr Go.Proofs.YtkpadjhdneiniaaGreatDoor.Rf Go.Proofs.YtkpadjhdneiniaaGreatDoor.Tx Go.Proofs.YtkpadjhdneiniaaGreatDoor.Au



open Go.Proofs.YtkpadjhdneiniaaGreatDoor.Eb
/-! the heads of classes, by types -/
def hds (M : Nat → Bool) (S : Nat → Nat → Bool) (ty : Nat → ByteArray) (o : Nat) (s : ByteArray) : List Nat := (List.range o).filter fun k => M k && (mapG M S k == (k : Int)) && decide (ty k = s)
theorem hds_succ (M : Nat → Bool) (S : Nat → Nat → Bool) (ty : Nat → ByteArray) (o : Nat) (s : ByteArray) : hds M S ty (o + 1) s = hds M S ty o s ++ if (M o && (mapG M S o == (o : Int)) && decide (ty o = s)) = true then [o] else [] := by
  unfold hds
  rw [List.range_succ, List.filter_append]
  congr 1
  rw [List.filter_cons]; rfl
theorem hds_same {M : Nat → Bool} {S : Nat → Nat → Bool} {ty : Nat → ByteArray} {o : Nat} (h : M o = false ∨ mapG M S o ≠ (o : Int)) (s : ByteArray) : hds M S ty (o + 1) s = hds M S ty o s := by
  rw [hds_succ, if_neg, List.append_nil]
  intro hc
  simp only [Bool.and_eq_true, beq_iff_eq] at hc
  rcases h with h | h
  · rw [hc.1.1] at h; cases h
  · exact h hc.1.2
theorem hds_more {M : Nat → Bool} {S : Nat → Nat → Bool} {ty : Nat → ByteArray} {o : Nat} (h : M o = true) (h2 : mapG M S o = (o : Int)) : hds M S ty (o + 1) (ty o) = hds M S ty o (ty o) ++ [o] ∧ ∀ s, s ≠ ty o → hds M S ty (o + 1) s = hds M S ty o s :=
  ⟨by rw [hds_succ, if_pos]; simp [h, h2], fun s hs => by rw [hds_succ, if_neg, List.append_nil]; simp [h, h2]; exact fun e => hs e.symm⟩
theorem mem_hds {M : Nat → Bool} {S : Nat → Nat → Bool} {ty : Nat → ByteArray} {o k : Nat} {s : ByteArray} : k ∈ hds M S ty o s ↔ k < o ∧ M k = true ∧ mapG M S k = (k : Int) ∧ ty k = s := by
  unfold hds
  simp only [List.mem_filter, List.mem_range, Bool.and_eq_true, beq_iff_eq, decide_eq_true_eq, and_assoc]
theorem map_first {M : Nat → Bool} {S : Nat → Nat → Bool} (hS : Eqv S) {o : Nat} (hM : M o = true) : ∃ m, m ≤ o ∧ mapG M S o = (m : Int) ∧ M m = true ∧ S m o = true ∧ ∀ j, j < m → M j = true → S j o = false := by
  unfold mapG
  rw [if_pos hM]
  rcases firstG_spec (fun k => M k && S k o) (o + 1) with ⟨_, h⟩ | ⟨k, h1, h2, h3, h4⟩
  · have h1 : (M o && S o o) = false := h o (by omega)
    rw [hM, hS.refl o] at h1; cases h1
  · have h3 : (M k && S k o) = true := h3
    rw [Bool.and_eq_true] at h3
    refine ⟨k, by omega, h2, h3.1, h3.2, fun j hj hm => ?_⟩
    have h5 : (M j && S j o) = false := h4 j hj
    rw [hm] at h5; exact h5
theorem head_hit {M : Nat → Bool} {S : Nat → Nat → Bool} {ty : Nat → ByteArray} (hS : Eqv S) {o k : Nat} (hM : M o = true) {s : ByteArray} (hk : k ∈ hds M S ty o s) (hs : S k o = true) : mapG M S o = (k : Int) := by
  obtain ⟨h1, h2, h3, h4⟩ := mem_hds.1 hk
  obtain ⟨m, g1, g2, g3, g4, g5⟩ := map_first hS hM
  obtain ⟨n, f1, f2, f3, f4, f5⟩ := map_first hS h2
  rw [g2]
  have hn : n = k := by rw [f2] at h3; omega
  subst hn
  rcases Nat.lt_trichotomy m n with h | h | h
  · have := f5 m h g3
    rw [hS.trans m o n g4 (by rw [hS.symm]; exact hs)] at this; cases this
  · rw [h]
  · have := g5 n h h2
    rw [hs] at this; cases this
theorem head_miss {M : Nat → Bool} {S : Nat → Nat → Bool} {ty : Nat → ByteArray} (hS : Eqv S) {o : Nat} (hM : M o = true) (ht : ∀ k, S k o = true → ty k = ty o) (h : ∀ k ∈ hds M S ty o (ty o), S k o = false) : mapG M S o = (o : Int) := by
  obtain ⟨m, g1, g2, g3, g4, g5⟩ := map_first hS hM
  rw [g2]
  rcases Nat.lt_or_eq_of_le g1 with hl | rfl
  · exfalso
    obtain ⟨n, f1, f2, f3, f4, f5⟩ := map_first hS g3
    have hn : n = m := by
      rcases Nat.lt_or_eq_of_le f1 with hl2 | e
      · have := g5 n hl2 f3
        rw [hS.trans n m o f4 g4] at this; cases this
      · exact e
    subst hn
    have := h n (mem_hds.2 ⟨hl, g3, f2, ht n g4⟩)
    rw [g4] at this; cases this
  · rfl
/-! rows of heads: an automaton and its object -/
abbrev Hp := Nat × Nat
abbrev noHp : Hp := (0, 0)
def headV (e : Hp) : List Value := [.pointer (some ⟨e.1, 0, none⟩), .int .i64 (e.2 : Int)]
def kD : Kd Hp where
  sz := 2
  E := []
  K := fun _ e cs => cs = headV e
  M := fun _ _ _ e cs => cs = headV e
  K_len := fun h => by rw [h]; rfl
  K_one := fun h u hu => by rw [h] at hu; simp only [headV, List.mem_cons, List.not_mem_nil, or_false] at hu; rcases hu with rfl | rfl <;> rfl
  K_below := fun _ h => h
  K_of_M := fun h => h
  M_mono := fun _ h => h
  M_bound := fun h => h
  M_move := fun _ h => h
  M_lower := fun _ h => h
theorem info120 : (Tryz.prog.info? 120).map (fun i => (i.zero, i.size, i.bytes)) = some (some (.agg #[.pointer none, .int .i64 0]), 2, 16) := by kernel_rfl
theorem C_atD {w : World} {A : Option Addr} {l : List Hp} (h : kD.C w A l.length l) (i : Nat) (hi : i < l.length) :
    ∃ ad, A = some ad ∧ w.cell? (ad.add (i * 2)) = some (.pointer (some ⟨(l.getD i noHp).1, 0, none⟩)) ∧ w.cell? ⟨(ad.add (i * 2)).block, (ad.add (i * 2)).off + 1, none⟩ = some (.int .i64 ((l.getD i noHp).2 : Int)) := by
  obtain ⟨ad, c, hA, _, hk, hc⟩ := Kd.C_get h noHp (i : Int) (by omega) (by omega)
  rw [Int.toNat_natCast] at hk hc
  have hk' : c = headV (l.getD i noHp) := hk
  subst hk'
  have e : ad.add (i * 2 + 1) = ⟨(ad.add (i * 2)).block, (ad.add (i * 2)).off + 1, none⟩ := by
    unfold Addr.add
    rw [if_neg (by omega)]
    split
    · simp
    · simp; omega
  refine ⟨ad, hA, hc 0 _ rfl, ?_⟩
  rw [← e]; exact hc 1 _ rfl
theorem zero118 (w : World) : (zeroValue 118).run Tryz.prog w = .ok (.slice none 0 0) w := by kernel_rfl
/-- The map of heads in block mh: of each type its row; lab: which block is which type's. -/
structure HX (w : World) (base mh : Nat) (lab : Nat → Option ByteArray) (rows : ByteArray → List Hp) (N : Nat) : Prop where
  mk :: (out : ∃ (fh : Lit → Option Value) (ch : Nat), MapP Tryz.prog 9 w mh fh ch ∧ ch ≤ N ∧
    (∀ s, (rows s = [] ∧ fh (strLit s) = none) ∨ ∃ v, fh (strLit s) = some v ∧ Kd.R kD 120 w 0 (fun k => lab k = some s) v (rows s)) ∧
    lab mh = none ∧ base ≤ mh ∧ ∀ k, lab k ≠ none → base ≤ k ∧ k < w.heap.size)
/-- what changes of it -/
def HD (mh : Nat) (lab : Nat → Option ByteArray) (k : Nat) : Prop := k = mh ∨ lab k ≠ none
section
variable {w w1 : World} {base mh N : Nat} {lab : Nat → Option ByteArray} {rows : ByteArray → List Hp}
theorem HX.chg (h : HX w base mh lab rows N) {G : Nat → Prop} (hC : Chg G w w1) (hd : ∀ k, HD mh lab k → ¬ G k) : HX w1 base mh lab rows N := by
  obtain ⟨fh, ch, h1, h2, h3, h4, h5, h6⟩ := h
  exact ⟨fh, ch, h1.chg hC (hd _ (.inl rfl)), h2, fun s => (h3 s).imp id (fun ⟨v, a, b⟩ => ⟨v, a, Kd.R_step b (fun k hk hlt => hC.block k hlt (hd k (.inr (by rw [hk]; simp))))⟩), h4, h5, fun k hk => ⟨(h6 k hk).1, Nat.lt_of_lt_of_le (h6 k hk).2 hC.size⟩⟩
theorem HX.below (h : HX w base mh lab rows N) (hb : Below w.heap.size w w1) : HX w1 base mh lab rows N := h.chg (Chg.of_below hb (fun _ => False)) (fun _ _ h => h)
theorem HX.lt (h : HX w base mh lab rows N) : ∀ k, HD mh lab k → base ≤ k ∧ k < w.heap.size := by
  obtain ⟨fh, ch, h1, h2, h3, h4, h5, h6⟩ := h
  exact fun k hk => hk.elim (fun e => by rw [e]; exact ⟨h5, h1.lt⟩) (h6 k)
/-- what stands there -/
theorem HX.look (h : HX w base mh lab rows N) (s : ByteArray) (hs : sOk s) : ∃ v, (∀ W, Below w.heap.size w W → (Instr.lookup 115 (.map (some mh)) (.string s) false).run Tryz.prog W = .ok v W) ∧ Kd.R kD 120 w 0 (fun k => lab k = some s) v (rows s) := by
  obtain ⟨fh, ch, h1, h2, h3, h4, h5, h6⟩ := h
  have hl := fun (W : World) (hb : Below w.heap.size w W) => (h1.below hb).look law9 Tryz.underlying115 (zero118 W) (strLit_key hs)
  rcases h3 s with ⟨e1, e2⟩ | ⟨v, e1, e2⟩
  · refine ⟨.slice none 0 0, fun W hb => ?_, by rw [e1]; exact Kd.R_nil _ _ _ _ _⟩
    have := hl W hb
    rw [e2] at this; exact this
  · refine ⟨v, fun W hb => ?_, e2⟩
    have := hl W hb
    rw [e1] at this; exact this
end
def labX (lab : Nat → Option ByteArray) (w w1 : World) (s : ByteArray) (k : Nat) : Option ByteArray := if w.heap.size ≤ k ∧ k < w1.heap.size then some s else lab k
def rowX (rows : ByteArray → List Hp) (s : ByteArray) (x : Hp) (s' : ByteArray) : List Hp := if s' = s then rows s ++ [x] else rows s'
/-- one more head -/
theorem hx_push {w Wb w1 w2 : World} {base mh ch c' N : Nat} {lab : Nat → Option ByteArray} {rows : ByteArray → List Hp} {fh : Lit → Option Value} {s : ByteArray} {x : Hp} {v1 : Value} (h1 : MapP Tryz.prog 9 w mh fh ch)
    (h3 : ∀ s, (rows s = [] ∧ fh (strLit s) = none) ∨ ∃ v, fh (strLit s) = some v ∧ Kd.R kD 120 w 0 (fun k => lab k = some s) v (rows s)) (h4 : lab mh = none) (h5 : base ≤ mh) (h6 : ∀ k, lab k ≠ none → base ≤ k ∧ k < w.heap.size) (hbase : base ≤ w.heap.size)
    (hb : Below w.heap.size w Wb) (hR : Kd.R kD 120 w1 0 (ext (fun k => lab k = some s) Wb w1) v1 (rows s ++ [x])) (hC : Chg (fun k => lab k = some s) Wb w1)
    (hM : MapP Tryz.prog 9 w2 mh (upd fh (strLit s) (some v1)) c') (hc : c' ≤ N) (hC2 : Chg (fun k => k = mh) w1 w2) :
    HX w2 base mh (labX lab Wb w1 s) (rowX rows s x) N ∧ Chg (HD mh lab) w w2 ∧ (∀ k, HD mh (labX lab Wb w1 s) k → HD mh lab k ∨ w.heap.size ≤ k) := by
  have z1 := hb.size
  have z2 := hC.size
  have z3 := hC2.size
  have hml := h1.lt
  have hlab : ∀ k s', labX lab Wb w1 s k = some s' → (Wb.heap.size ≤ k ∧ k < w1.heap.size ∧ s' = s) ∨ (¬ (Wb.heap.size ≤ k ∧ k < w1.heap.size) ∧ lab k = some s') := fun k s' h => by
    unfold labX at h
    split at h
    · rename_i hk
      exact .inl ⟨hk.1, hk.2, (Option.some.inj h).symm⟩
    · rename_i hk
      exact .inr ⟨hk, h⟩
  have hchg : Chg (HD mh lab) w w2 := ((Chg.of_below hb (HD mh lab)).then_ (hC.mono (F' := HD mh lab) (fun k _ hk => .inr (by rw [hk]; simp))) (fun k hk => .inl hk)).then_ (hC2.mono (F' := HD mh lab) (fun k _ hk => .inl hk)) (fun k hk => .inl hk)
  refine ⟨⟨_, c', hM, hc, fun s' => ?_, ?_, h5, fun k hk => ?_⟩, hchg, fun k hk => ?_⟩
  · by_cases e : s' = s
    · subst e
      refine .inr ⟨v1, upd_same _ _ _, ?_⟩
      unfold rowX
      rw [if_pos rfl]
      refine Kd.R_mono (Kd.R_step hR (fun k hk hlt => hC2.block k hlt (fun e => ?_))) (fun k hk => ?_)
      · subst e
        exact hk.elim (fun h => by have h : lab k = some s' := h; rw [h4] at h; cases h) (fun h => by omega)
      · show labX lab Wb w1 s' k = some s'
        unfold labX
        by_cases hn : Wb.heap.size ≤ k ∧ k < w1.heap.size
        · rw [if_pos hn]
        · rw [if_neg hn]; exact hk.elim id (fun h => absurd h hn)
    · have e1 : rowX rows s x s' = rows s' := if_neg e
      have e2 : upd fh (strLit s) (some v1) (strLit s') = fh (strLit s') := upd_other _ (fun h => e (strLit_inj h)) _
      rw [e1, e2]
      refine (h3 s').imp id (fun ⟨v, a, b⟩ => ⟨v, a, ?_⟩)
      have b1 := Kd.R_below b hb
      have b2 : Kd.R kD 120 Wb 0 (fun k => lab k = some s' ∧ k < Wb.heap.size) v (rows s') := Kd.R_mono (Kd.R_bound b1) (fun k hk => ⟨hk.1, hk.2.2.1⟩)
      have b3 := Kd.R_step b2 (w1 := w1) (fun k hk hlt => hC.block k hlt (fun h => e (by have := hk.1.symm.trans h; exact Option.some.inj this)))
      have b4 := Kd.R_step b3 (w1 := w2) (fun k hk hlt => hC2.block k hlt (fun h => by rw [h, h4] at hk; cases hk.1))
      refine Kd.R_mono b4 (fun k hk => ?_)
      unfold labX
      rw [if_neg (fun h => by omega)]
      exact hk.1
  · unfold labX
    rw [if_neg (fun h => by omega)]; exact h4
  · cases hl : labX lab Wb w1 s k with
    | none => exact absurd hl hk
    | some s' =>
      rcases hlab k s' hl with ⟨a, b, _⟩ | ⟨_, b⟩
      · exact ⟨by omega, by omega⟩
      · have := h6 k (by rw [b]; simp)
        exact ⟨this.1, by omega⟩
  · rcases hk with hk | hk
    · exact .inl (.inl hk)
    · cases hl : labX lab Wb w1 s k with
      | none => exact absurd hl hk
      | some s' =>
        rcases hlab k s' hl with ⟨a, b, _⟩ | ⟨_, b⟩
        · exact .inr (by omega)
        · exact .inl (.inr (by rw [b]; simp))
section
variable {ops : Array Oper} {rest : List Oper} {o : Oper} {a : Act} {Q : Exit → Act → World → Prop} {Kc : Act → World → Prop}
theorem appD {W : World} {G : Nat → Prop} (hgd : o.guard = none) (s x : Operand)
    (ho : o.op = .call { callee := .builtin .append, args := #[s, x], argTypes := #[118, 118] })
    (v : Value) (xs : List Hp) (y : Hp) (g : Nat) (hs : a.eval s = v) (hx : a.eval x = .slice (some ⟨g, 0, none⟩) 1 1)
    (HO : Kd.R kD 120 W 0 G v xs) (HR : W.heap[g]? = some (.cells #[.pointer (some ⟨y.1, 0, none⟩), .int .i64 (y.2 : Int)] 120 (0, 0))) (hl : (xs.length + 1) * 16 ≤ 140737488355328)
    (h : ∀ v1 w1, Kd.R kD 120 w1 0 (ext G W w1) v1 (xs ++ [y]) → W.grownBy w1 v.ownBlock → Chg G W w1 → wpList Tryz.prog ops Q rest (a.put o.dst v1) w1) :
    wpList Tryz.prog ops Q (o :: rest) a W := by
  have hone : Kd.R kD 120 W 0 (fun k => k = g) (.slice (some ⟨g, 0, none⟩) 1 1) [y] :=
    ⟨fun k hk => by cases hk; rfl, headV y, ⟨rfl, .inr ⟨g, 1, #[.pointer (some ⟨y.1, 0, none⟩), .int .i64 (y.2 : Int)], rfl, Nat.zero_le _, HR, Nat.le_refl _, by unfold maxLen; omega, rfl, rfl⟩⟩, ⟨rfl, fun j p hj => by
      cases j with
      | zero => have e : p = y := by simpa using hj.symm
                subst e; rfl
      | succ j => simp at hj⟩⟩
  obtain ⟨A, c, e, hc, hr⟩ := Kd.R_reads hone
  injection e with ea eb ec
  subst ea
  exact Kd.R_append_rows kD (Rr := fun y cs => cs = headV y) (w0 := W) 0 hgd s x 118 120 (.agg #[.pointer none, .int .i64 0]) 16 ho Tryz.underlying118 info120 rfl (by decide) (by decide) v xs [y] (some ⟨g, 0, none⟩) 1 1 (fun k => G k ∨ W.heap.size ≤ k) (fun _ => False) hs hx (Kd.R_mono HO (fun k hk => .inl hk)) hr (fun _ _ hk => hk) (fun _ h => h.elim) (fun _ hk => .inr hk) (Below.refl _ _) (Nat.zero_le _) hl
    (fun v1 w1 ho hb hg hat => h v1 w1 (Kd.R_mono (Kd.R_bound ho) (fun k hk => hk.1.elim .inl (fun h => .inr ⟨h, hk.2.2.1⟩))) hg (Chg.of_grown hg (fun k hk => HO.1 k hk)))
end
/-! the state of Map -/
def rowsG (M : Nat → Bool) (S : Nat → Nat → Bool) (T : List ByteArray) (pa : Nat → Nat) (o : Nat) (s : ByteArray) : List Hp := (hds M S (fun k => typeG T (k : Int)) o s).map fun k => (pa k, k)
structure MS (T : List ByteArray) (E : List GE) (w0 w : World) (Ft : Nat → Prop) (lab : Nat → Option ByteArray) (V : Value) (L : List Int) (rows : ByteArray → List Hp) (N : Nat) : Prop where
  own : OwF w Ft V L
  hx : HX w w0.heap.size w0.heap.size lab rows N
  ft : ∀ k, Ft k → w0.heap.size ≤ k ∧ k < w.heap.size ∧ ¬ HD w0.heap.size lab k
  au : ∀ s, ∀ x ∈ rows s, ∃ b e, AuR w0.heap.size b e w x.1 T E (x.2 : Int) ∧ e ≤ w.heap.size ∧ ∀ q, (Ft q ∨ HD w0.heap.size lab q) → q < b ∨ e ≤ q
  bel : Below w0.heap.size w0 w
section
variable {T : List ByteArray} {E : List GE} {w0 w w1 : World} {Ft Ft1 : Nat → Prop} {lab : Nat → Option ByteArray} {V V1 : Value} {L L1 : List Int} {rows : ByteArray → List Hp} {N : Nat}
theorem MS.below (h : MS T E w0 w Ft lab V L rows N) (hb : Below w.heap.size w w1) : MS T E w0 w1 Ft lab V L rows N :=
  ⟨h.own.below hb, h.hx.below hb, fun k hk => ⟨(h.ft k hk).1, Nat.lt_of_lt_of_le (h.ft k hk).2.1 hb.size, (h.ft k hk).2.2⟩, fun s x hx => by
    obtain ⟨b, e, h1, h2, h3⟩ := h.au s x hx
    exact ⟨b, e, h1.below hb, Nat.le_trans h2 hb.size, h3⟩, bel_trans h.bel hb⟩
theorem MS.toChg (h : MS T E w0 w Ft lab V L rows N) (hC : Chg Ft w w1) (hO : OwF w1 Ft1 V1 L1) (hF : ∀ k, Ft1 k → (Ft k ∨ w.heap.size ≤ k) ∧ k < w1.heap.size) : MS T E w0 w1 Ft1 lab V1 L1 rows N := by
  have hs := h.bel.size
  refine ⟨hO, h.hx.chg hC (fun k hk hf => (h.ft k hf).2.2 hk), fun k hk => ?_, fun s x hx => ?_, chg_own h.bel (fun k hk => (h.ft k hk).1) hC⟩
  · obtain ⟨h1, h2⟩ := hF k hk
    rcases h1 with h1 | h1
    · exact ⟨(h.ft k h1).1, h2, (h.ft k h1).2.2⟩
    · exact ⟨by omega, h2, fun hd => by have := (h.hx.lt k hd).2; omega⟩
  · obtain ⟨b, e, h1, h2, h3⟩ := h.au s x hx
    refine ⟨b, e, h1.chg (fun q hq => ⟨(h.ft q hq).1, h3 q (.inl hq)⟩) hC, Nat.le_trans h2 hC.size, fun q hq => ?_⟩
    rcases hq with hq | hq
    · rcases (hF q hq).1 with hq | hq
      · exact h3 q (.inl hq)
      · exact .inr (by omega)
    · exact h3 q (.inr hq)
theorem MS.push (h : MS T E w0 w Ft lab V L rows N) {lab' : Nat → Option ByteArray} {s : ByteArray} {x : Hp} (hx : HX w1 w0.heap.size w0.heap.size lab' (rowX rows s x) (N + 1)) (hC : Chg (HD w0.heap.size lab) w w1) (hD : ∀ k, HD w0.heap.size lab' k → HD w0.heap.size lab k ∨ w.heap.size ≤ k)
    (ha : ∃ b e, AuR w0.heap.size b e w x.1 T E (x.2 : Int) ∧ e ≤ w.heap.size ∧ ∀ q, (Ft q ∨ HD w0.heap.size lab q) → q < b ∨ e ≤ q) : MS T E w0 w1 Ft lab' V L (rowX rows s x) (N + 1) := by
  refine ⟨h.own.chg hC (fun k hk hd => (h.ft k hk).2.2 hd), hx, fun k hk => ?_, fun s' y hy => ?_, chg_own h.bel (fun k hk => (h.hx.lt k hk).1) hC⟩
  · obtain ⟨h1, h2, h3⟩ := h.ft k hk
    exact ⟨h1, Nat.lt_of_lt_of_le h2 hC.size, fun hd => (hD k hd).elim h3 (fun h => by omega)⟩
  · have hy2 : ∃ b e, AuR w0.heap.size b e w y.1 T E (y.2 : Int) ∧ e ≤ w.heap.size ∧ ∀ q, (Ft q ∨ HD w0.heap.size lab q) → q < b ∨ e ≤ q := by
      unfold rowX at hy
      split at hy
      · rcases List.mem_append.1 hy with hy | hy
        · exact h.au _ y hy
        · rw [List.mem_singleton] at hy; subst hy; exact ha
      · exact h.au _ y hy
    obtain ⟨b, e, h1, h2, h3⟩ := hy2
    refine ⟨b, e, h1.chg (fun q hq => ⟨(h.hx.lt q hq).1, h3 q (.inr hq)⟩) hC, Nat.le_trans h2 hC.size, fun q hq => ?_⟩
    rcases hq with hq | hq
    · exact h3 q (.inl hq)
    · rcases hD q hq with hq | hq
      · exact h3 q (.inr hq)
      · exact .inr (by omega)
end
theorem rows_more {M : Nat → Bool} {S : Nat → Nat → Bool} {T : List ByteArray} {pa : Nat → Nat} {o p : Nat} (h : M o = true) (h2 : mapG M S o = (o : Int)) :
    rowX (rowsG M S T pa o) (typeG T (o : Int)) (p, o) = rowsG M S T (fun k => if k = o then p else pa k) (o + 1) := by
  have old : ∀ s, (hds M S (fun k => typeG T (k : Int)) o s).map (fun k => ((if k = o then p else pa k), k)) = rowsG M S T pa o s := fun s => by
    unfold rowsG
    refine List.map_congr_left (fun k hk => ?_)
    have := (mem_hds.1 hk).1
    rw [if_neg (by omega)]
  funext s
  unfold rowX
  obtain ⟨h3, h4⟩ := hds_more (ty := fun k => typeG T (k : Int)) h h2
  by_cases e : s = typeG T (o : Int)
  · subst e
    rw [if_pos rfl]
    show _ = List.map _ (hds M S _ (o + 1) _)
    rw [h3, List.map_append, old]; simp
  · rw [if_neg e]
    show _ = List.map _ (hds M S _ (o + 1) _)
    rw [h4 s e, old]
theorem rows_same {M : Nat → Bool} {S : Nat → Nat → Bool} {T : List ByteArray} {pa : Nat → Nat} {o : Nat} (h : M o = false ∨ mapG M S o ≠ (o : Int)) : rowsG M S T pa (o + 1) = rowsG M S T pa o := by
  funext s
  unfold rowsG
  rw [hds_same h]
theorem typL_one (T : List ByteArray) (x : Int) : typL T [x] = if 0 ≤ x ∧ x < T.length then [typeG T x] else [] := by
  unfold typL
  by_cases h : 0 ≤ x ∧ x < T.length
  · rw [if_pos h, List.filter_cons_of_pos (by simpa using h)]; rfl
  · rw [if_neg h, List.filter_cons_of_neg (by simpa using h)]; rfl
theorem same_type {T : List ByteArray} {E : List GE} {k o : Nat} (h : ∀ v, ¬ Df T E [(k : Int)] [(o : Int)] v) : typeG T (k : Int) = typeG T (o : Int) := by
  have h1 : tyG T [(k : Int)] = tyG T [(o : Int)] := Classical.byContradiction (fun e => h [] e)
  have hm : ∀ s, s ∈ typL T [(k : Int)] ↔ s ∈ typL T [(o : Int)] := fun s => by rw [← (tyG_is T _).mem, ← (tyG_is T _).mem, h1]
  rw [typL_one, typL_one] at hm
  by_cases hk : 0 ≤ (k : Int) ∧ (k : Int) < T.length
  · by_cases ho : 0 ≤ (o : Int) ∧ (o : Int) < T.length
    · rw [if_pos hk, if_pos ho] at hm
      simpa using (hm (typeG T (k : Int))).1 (by simp)
    · rw [if_pos hk, if_neg ho] at hm
      have := (hm (typeG T (k : Int))).1 (by simp)
      cases this
  · by_cases ho : 0 ≤ (o : Int) ∧ (o : Int) < T.length
    · rw [if_neg hk, if_pos ho] at hm
      have := (hm (typeG T (o : Int))).2 (by simp)
      cases this
    · unfold typeG; rw [if_neg hk, if_neg ho]
set_option maxHeartbeats 16000000 in
set_option maxRecDepth 100000 in
/-- merge.Map -/
theorem map_any (pg : Nat) (T : List ByteArray) (E : List GE) (most : Int) (w : World) (hg : GA w pg T E) (hT : TZ w) (hP : P10 w) (hL : LightG T.length E) (hok : ∀ a f z, (a, f, z) ∈ E → ok64 f) (hm : ok64 most) (hTs : ∀ s ∈ T, s.size ≤ maxLen) (M : Nat → Bool) (hM : ∀ i, M i = true ↔ MayG T E most (i : Int)) (S : Nat → Nat → Bool) (hS : ∀ j i, S j i = true ↔ ∀ v, ¬ Df T E [(j : Int)] [(i : Int)] v) :
    Calls Tryz.prog 45 #[.pointer (some ⟨pg, 0, none⟩), .int .i64 most] w fun e w' => ∃ u, e = .returned (.tuple #[u, .int .i64 0]) ∧ OwI w' w.heap.size u (mapL M S T.length) ∧ Below w.heap.size w w' := by
  have hmm := @run_makeMap Tryz.prog
  have HLn := Aside0.mk (fun (W' : World) (hb : Below w.heap.size w W') => len_any pg T E W' (hg.below hb))
  have hgs := GAs.start hg
  have HQ := Aside0.mk (same_eqv hS)
  have HS := Aside0.mk hS
  have H := Aside0.mk (And.intro hT (And.intro hP (And.intro hL (And.intro hok (And.intro hm hTs)))))
  have Hgs := Aside0.mk hgs
  have HM := Aside0.mk hM
  have hTy : ∀ k o, S k o = true → typeG T (k : Int) = typeG T (o : Int) := fun k o h => same_type ((hS k o).1 h)
  have HTy := Aside0.mk hTy
  obtain ⟨nT, hnT⟩ : ∃ nT, T.length = nT := ⟨_, rfl⟩
  have Hn := Aside0.mk (And.intro hnT (show nT ≤ 8 by rw [← hnT]; exact hL.2.2))
  obtain ⟨mh, hmh⟩ : ∃ b, w.heap.size = b := ⟨_, rfl⟩
  obtain ⟨W, hW⟩ : ∃ W, w.alloc (.map #[] 0) = W := ⟨_, rfl⟩
  have HB0 := Aside0.mk (show Below w.heap.size w W by rw [← hW]; exact below_alloc (Below.refl _ _) _)
  have hx0 : HX W w.heap.size w.heap.size (fun _ => none) (fun _ => []) 0 := ⟨fun _ => none, 0, by rw [← hW]; exact MapP.made w Tryz.prog 9, Nat.le_refl _, fun s => .inl ⟨rfl, rfl⟩, rfl, Nat.le_refl _, fun k hk => absurd rfl hk⟩
  have HM0 := Aside0.mk (show MS T E w W (fun _ => False) (fun _ => none) (.slice none 0 0) [] (fun _ => []) 0 from ⟨OwF.nil _ _, hx0, fun k hk => hk.elim, fun s x hx => (by cases hx), HB0.out⟩)
  have Hmh := Aside0.mk hmh
  rw [hnT] at HLn ⊢
  clear hx0 hg hgs hT hP hL hok hm hTs hM hS hTy hnT
  go_enter Tryz.func45, Tryz.ntmps45
  go_wp2_with fail
  try simp only [hmh, hW]
  refine (HLn.out W HB0.out).mono ?_
  rintro e w1 ⟨rfl, rfl⟩
  clear hW hmh HLn
  go_wp2_with fail
  go_loopw [7, 19] (fun V I wr => ∃ (o : Nat) (Ft : Nat → Prop) (lab : Nat → Option ByteArray) (pa : Nat → Nat) (N : Nat), I = .int .i64 (o : Int) ∧ o ≤ nT ∧ Aside0 (MS T E w wr Ft lab V (mapL M S o) (rowsG M S T pa o) N) ∧ Aside0 (N ≤ o)) (fun _ I _ => nT - (intOf I).toNat)
  case atStart => exact ⟨0, fun _ => False, fun _ => none, fun _ => 0, 0, rfl, Nat.zero_le _, HM0, ⟨Nat.le_refl _⟩⟩
  case round =>
    clear HM0
    obtain ⟨o, Ft, lab, pa, N, rfl, ho, HMS, HN⟩ := hrel
    have o3 : (o : Int) ≤ 8 := by have := Hn.out.2; omega
    obtain ⟨AV, cV, hV, -, -⟩ := HMS.out.own.toV
    subst hV
    rw [mapL_len] at HMS ⊢
    by_cases hon : o < nT
    · have hnb : decide ((o : Int) < (nT : Int)) = true := decide_eq_true (by omega)
      have hnc : decide (o < nT) = true := decide_eq_true hon
      obtain ⟨Wa, hWa⟩ : ∃ Wa, wr.alloc (.cells #[.int .i64 (o : Int)] 3) = Wa := ⟨_, rfl⟩
      have Ba : Below wr.heap.size wr Wa := by rw [← hWa]; exact below_alloc (Below.refl _ _) _
      have HRa := Aside0.mk (show RdV Wa (.slice (some ⟨wr.heap.size, 0, none⟩) 1 1) [(o : Int)] from RdV.one (by rw [← hWa]; exact blk_cell (heap_alloc_new _ _) 0))
      have HMa := Aside0.mk (HMS.out.below Ba)
      have Ho := Aside0.mk hon
      clear hon ho Ba HMS
      go_wp2_with (first
        | (at_builtin; refine appF (G := Ft) rfl (.tmp 22) (.tmp 24) rfl _ _ (mapL M S o) [(o : Int)] (by rfl) (by rfl) HMa.out.own HRa.out (by rw [mapL_len]; have := Hn.out.2; have := Ho.out; simp; omega) ?_; intro v1 w1 ho1 hc1)
        | fail)
      have HM1 := Aside0.mk (HMa.out.toChg hc1 ho1 (fun k hk => ⟨hk.imp id (fun h => h.1), hk.elim (fun h => by have := (HMa.out.ft k h).2.1; have := hc1.size; omega) (fun h => h.2)⟩))
      generalize (ext Ft Wa w1) = Ft1 at HM1
      clear ho1 hc1 hWa HMa HRa
      rcases HM1.out.own.form with ⟨-, hv0⟩ | ⟨gT, cT, cur, hv1, hgT, -⟩
      · simp at hv0
      subst hv1
      have HgT := Aside0.mk hgT
      clear hgT
      rw [show (mapL M S o ++ [(o : Int)]).length = o + 1 by simp [mapL_len]] at HM1 ⊢
      have HMy := Aside0.mk (may_any w.heap.size pg T E (o : Int) most w1 (Hgs.out.below HM1.out.bel (Nat.le_refl _)) HM1.out.bel.size (H.out.1.below HM1.out.bel) (H.out.2.1.below HM1.out.bel) H.out.2.2.1 H.out.2.2.2.1 H.out.2.2.2.2.1)
      go_wp2_with fail
      refine HMy.out.mono ?_
      rintro e w2 ⟨r1, ⟨r0, p, rfl, r2⟩ | ⟨r0, rfl⟩⟩
      case inr =>
        have hMo : M o = false := by
          cases hb : M o with
          | false => rfl
          | true => exact absurd ((HM.out o).1 hb) r0
        have hmp : mapL M S o ++ [(o : Int)] = mapL M S (o + 1) := by rw [mapL_snoc]; unfold mapG; rw [hMo, if_neg (by simp)]
        have HM9 := Aside0.mk (HM1.out.below r1)
        rw [hmp, ← rows_same (.inl hMo)] at HM9
        have HN9 := Aside0.mk (show N ≤ o + 1 by have := HN.out; omega)
        clear r0 r1 HMy hmp hMo
        go_wp2_with fail
        go_roundw
        case rel => exact ⟨o + 1, Ft1, lab, pa, N, by go_num, Ho.out, HM9, HN9⟩
        case measure => have := Ho.out; simp [intOf]; omega
      have HM2 := Aside0.mk (HM1.out.below r1)
      have HMo := Aside0.mk (show M o = true from (HM.out o).2 r0)
      have HA2 := Aside0.mk (show ∃ b e, AuR w.heap.size b e w2 p T E (o : Int) ∧ e ≤ w2.heap.size ∧ ∀ q, (Ft1 q ∨ HD w.heap.size lab q) → q < b ∨ e ≤ q from ⟨_, _, r2, Nat.le_refl _, fun q hq => .inl (hq.elim (fun h => (HM1.out.ft q h).2.1) (fun h => (HM1.out.hx.lt q h).2))⟩)
      have HTp := Aside0.mk (type_any pg T E (o : Int) w2 ((Hgs.out.below HM2.out.bel (Nat.le_refl _)).ga) (by have := Hn.out; omega))
      clear r0 r1 r2 HMy
      go_wp2_with fail
      refine HTp.out.mono ?_
      rintro e w2' ⟨rfl, rfl⟩
      have hsk : sOk (typeG T (o : Int)) := by
        unfold typeG
        split
        · refine H.out.2.2.2.2.2 _ ?_
          rw [List.getD_eq_getElem?_getD, List.getElem?_eq_getElem (by omega)]; exact List.getElem_mem _
        · unfold sOk; simp [maxLen]
      obtain ⟨vr, hvr, hrow⟩ := HM2.out.hx.look (typeG T (o : Int)) hsk
      have Hsk := Aside0.mk hsk
      obtain ⟨ts, hts⟩ : ∃ s, typeG T (o : Int) = s := ⟨_, rfl⟩
      rw [hts] at hvr hrow ⊢
      obtain ⟨AR, cR, hvR, hcR, hrd⟩ := Kd.R_reads hrow
      subst hvR
      obtain ⟨nr, hnr⟩ : ∃ k, (rowsG M S T pa o ts).length = k := ⟨_, rfl⟩
      have hlk := hvr w2 (Below.refl _ _)
      rw [hnr, Hmh.out] at hlk hvr
      have Hvr := Aside0.mk hvr
      have Hts := Aside0.mk (And.intro hts hnr)
      have hn8 : nr ≤ o := by
        rw [← hnr]
        unfold rowsG hds
        rw [List.length_map]
        exact Nat.le_trans (List.length_filter_le _ _) (by simp)
      have Hn8 := Aside0.mk hn8
      have Hrd := Aside0.mk hrd
      have hrow2 := hrow
      rw [hnr] at hrow2
      have Hrow := Aside0.mk hrow2
      clear hrow2 hsk hvr hrow hcR hrd hnr hts HTp hn8
      go_wp2_with fail
      go_loopw [11, 39] (fun Z I wx => ∃ j : Nat, I = .int .i64 (j : Int) ∧ j ≤ nr ∧ Z = .bool false ∧ Aside0 (∀ i, i < j → S ((rowsG M S T pa o ts).getD i noHp).2 o = false) ∧ Aside0 (Below w2.heap.size w2 wx)) (fun _ I _ => nr - (intOf I).toNat)
      case atStart => exact ⟨0, rfl, Nat.zero_le _, rfl, ⟨fun i h => by omega⟩, ⟨Below.refl _ _⟩⟩
      case round =>
        obtain ⟨j, rfl, hj, rfl, HE, HBx⟩ := hrel
        rename World => wx
        have j3 : (j : Int) ≤ 8 := by have := Hn8.out; omega
        by_cases hjn : j < nr
        · have hnb' : decide ((j : Int) < (nr : Int)) = true := decide_eq_true (by omega)
          have hnc' : decide (j < nr) = true := decide_eq_true hjn
          obtain ⟨ad, hAR, e0, e1⟩ := C_atD (Kd.C_below Hrd.out HBx.out) j (by rw [Hts.out.2]; exact hjn)
          subst hAR
          have hmx : (rowsG M S T pa o ts).getD j noHp ∈ rowsG M S T pa o ts := getD_mem (by rw [Hts.out.2]; exact hjn)
          obtain ⟨⟨pj, kj⟩, hx⟩ : ∃ e, (rowsG M S T pa o ts).getD j noHp = e := ⟨_, rfl⟩
          rw [hx] at e0 e1 hmx
          have hkm : kj ∈ hds M S (fun k => typeG T (k : Int)) o ts := by
            unfold rowsG at hmx
            obtain ⟨k, hk, he⟩ := List.mem_map.1 hmx
            cases he
            exact hk
          have hko := (mem_hds.1 hkm).1
          obtain ⟨b1, b2, g1, g2, g3⟩ := HM2.out.au ts (pj, kj) hmx
          obtain ⟨c1, c2, f1, f2, f3⟩ := HA2.out
          obtain ⟨B, hB⟩ : ∃ B, S kj o = B := ⟨_, rfl⟩
          obtain ⟨Wh, hWh⟩ : ∃ W, wx.alloc (.cells #[.pointer (some ⟨pj, 0, none⟩), .int .i64 (kj : Int)] 120) = W := ⟨_, rfl⟩
          have hbh : Below wx.heap.size wx Wh := by rw [← hWh]; exact below_alloc (Below.refl _ _) _
          obtain ⟨ph, hph⟩ : ∃ b, wx.heap.size = b := ⟨_, rfl⟩
          have hhb : Wh.heap[ph]? = some (.cells #[.pointer (some ⟨pj, 0, none⟩), .int .i64 (kj : Int)] 120 (0, 0)) := by rw [← hWh, ← hph]; exact heap_alloc_new _ _
          have HSm := Aside0.mk (show SameSaid Wh (some ⟨pj, 0, none⟩) (some ⟨p, 0, none⟩) B from same_aur (g1.below (bel_trans HBx.out hbh)) (f1.below (bel_trans HBx.out hbh)) H.out.2.2.1 H.out.2.2.2.1 (by omega) (by have := Hn.out.1; have := Ho.out; omega) (by omega) (by have := Hn.out.1; have := Ho.out; omega) (by rw [← hB]; exact HS.out kj o))
          have HBh := Aside0.mk (bel_trans HBx.out hbh)
          have Hhb := Aside0.mk hhb
          have Hk := Aside0.mk (And.intro hkm (And.intro hko (And.intro hx (And.intro hB hjn))))
          have j0 : (0 : Int) ≤ (j : Int) := by omega
          have j1 : (j : Int) < (nr : Int) := by omega
          have d0 : Wh.cell? ⟨ph, 0, none⟩ = some (.pointer (some ⟨pj, 0, none⟩)) := blk_cellD hhb 0 _ rfl
          clear hmx hkm hko hx hB hbh hhb hjn hj g1 g2 g3 f1 f2 f3
          replace j0 := eq_true j0
          replace j1 := eq_true j1
          go_upto_region 16 with fail
          try simp only [hph, hWh]
          clear hph hWh e0 e1
          go_wp2_with fail
          refine (HSm.out Wh (Below.refl _ _)).mono ?_
          rintro e w6 ⟨rfl, r1⟩
          have HB6 := Aside0.mk (bel_trans HBh.out r1)
          have Hh6 := Aside0.mk (Ow.blk_below Hhb.out r1)
          clear r1 HSm d0
          cases B with
          | false =>
            have HE' := Aside0.mk (show ∀ i, i < j + 1 → S ((rowsG M S T pa o ts).getD i noHp).2 o = false from fun i hi => by
              rcases Nat.lt_or_eq_of_le (Nat.le_of_lt_succ hi) with h | rfl
              · exact HE.out i h
              · rw [Hk.out.2.2.1]; exact Hk.out.2.2.2.1)
            go_wp2_with fail
            go_roundw
            case rel => exact ⟨j + 1, by go_num, Hk.out.2.2.2.2, rfl, HE', HB6⟩
            case measure => have := Hk.out.2.2.2.2; simp [intOf]; omega
          | true =>
            have hmg : mapG M S o = (kj : Int) := head_hit HQ.out HMo.out Hk.out.1 Hk.out.2.2.2.1
            have HM6 := Aside0.mk (HM2.out.below HB6.out)
            have hR6 := HM6.out.own.out
            have hl1 : (mapL M S o ++ [(o : Int)]).length = o + 1 := by simp [mapL_len]
            have hR6' : Kd.R (Kd.int .i64) 3 w6 0 Ft1 (.slice (some ⟨gT, 0, none⟩) (mapL M S o ++ [(o : Int)]).length cT) (mapL M S o ++ [(o : Int)]) := by rw [hl1]; exact hR6
            have hcell := Kd.R_cell (0 : Int) hR6' (o : Int) (by omega) (by rw [hl1]; omega)
            have hput := (Kd.R_put hR6' (o : Int) (kj : Int)).1
            rw [Int.toNat_natCast] at hcell hput
            have hset : (mapL M S o ++ [(o : Int)]).set o (kj : Int) = mapL M S (o + 1) := by
              rw [mapL_snoc, hmg, List.set_append_right _ _ (by rw [mapL_len]; exact Nat.le_refl _), mapL_len]; simp
            rw [hset, hl1] at hput
            obtain ⟨w7, hw7⟩ : ∃ z, w6.setCell ⟨gT, o, none⟩ (.int .i64 (kj : Int)) = z := ⟨_, rfl⟩
            have hC7 : Chg Ft1 w6 w7 := by rw [← hw7]; exact Chg.setCell w6 (F := Ft1) (p := ⟨gT, o, none⟩) HgT.out _
            have hput : Kd.R (Kd.int .i64) 3 w7 0 Ft1 (.slice (some ⟨gT, 0, none⟩) (o + 1) cT) (mapL M S (o + 1)) := by rw [← hw7]; exact hput
            have hz7 : w7.heap.size = w6.heap.size := by rw [← hw7]; simp [World.setCell]
            have HM7 := Aside0.mk (show MS T E w w7 Ft1 lab (.slice (some ⟨gT, 0, none⟩) (o + 1) cT) (mapL M S (o + 1)) (rowsG M S T pa (o + 1)) N by
              rw [rows_same (.inr (by rw [hmg]; have := Hk.out.2.1; omega))]
              exact HM6.out.toChg hC7 ⟨hput⟩ (fun k hk => ⟨.inl hk, by rw [hz7]; exact (HM6.out.ft k hk).2.1⟩))
            have HN9 := Aside0.mk (show N ≤ o + 1 by have := HN.out; omega)
            have z0 : w6.frozen? ⟨gT, o, none⟩ = false := hcell.2
            have z1 : w6.cell? ⟨gT, o, none⟩ = some (.int .i64 (o : Int)) := by
              have h := hcell.1
              rw [h]; congr 1
              simp [rdOf, mapL_len]
            have d1 : w6.cell? ⟨ph, 1, none⟩ = some (.int .i64 (kj : Int)) := blk_cellD Hh6.out 1 _ rfl
            have k0 : (0 : Int) ≤ (o : Int) := by omega
            have k1 : (o : Int) < ((o + 1 : Nat) : Int) := by omega
            have k2 : (o : Int) < (o : Int) + 1 := by omega
            clear hR6 hR6' hcell hput hset hC7 hz7 hmg hl1
            replace k0 := eq_true k0
            replace k1 := eq_true k1
            replace k2 := eq_true k2
            go_wp2_with fail
            try simp only [hw7]
            go_roundw
            case rel => exact ⟨o + 1, Ft1, lab, pa, N, by go_num, Ho.out, HM7, HN9⟩
            case measure => have := Ho.out; simp [intOf]; omega
        · have hnb' : decide ((j : Int) < (nr : Int)) = false := decide_eq_false (by omega)
          have hnc' : decide (j < nr) = false := decide_eq_false hjn
          obtain rfl : j = nr := by omega
          have hmg : mapG M S o = (o : Int) := head_miss (ty := fun k => typeG T (k : Int)) HQ.out HMo.out (fun k hk => HTy.out k o hk) (fun k hk => by
            rw [Hts.out.1] at hk
            obtain ⟨i, hi, hki⟩ := List.mem_iff_getElem.1 hk
            have hi2 : i < (rowsG M S T pa o ts).length := by unfold rowsG; rw [List.length_map]; exact hi
            have h2 := HE.out i (by rw [← Hts.out.2]; exact hi2)
            have h3 : ((rowsG M S T pa o ts).getD i noHp).2 = k := by
              rw [List.getD_eq_getElem?_getD, List.getElem?_eq_getElem hi2]
              show ((List.map (fun k => (pa k, k)) (hds M S (fun k => typeG T (k : Int)) o ts))[i]'(by rw [List.length_map]; exact hi)).2 = k
              rw [List.getElem_map]; exact hki
            rw [h3] at h2; exact h2)
          have HMx := Aside0.mk (HM2.out.below HBx.out)
          have HAx := Aside0.mk (show ∃ b e, AuR w.heap.size b e wx p T E (o : Int) ∧ e ≤ wx.heap.size ∧ ∀ q, (Ft1 q ∨ HD w.heap.size lab q) → q < b ∨ e ≤ q from by
            obtain ⟨b, e, a1, a2, a3⟩ := HA2.out
            exact ⟨b, e, a1.below HBx.out, Nat.le_trans a2 HBx.out.size, a3⟩)
          obtain ⟨fh, ch, x1, x2, x3, x4, x5, x6⟩ := HMx.out.hx
          obtain ⟨Wb, hWb⟩ : ∃ Wb, wx.alloc (.cells #[.pointer (some ⟨p, 0, none⟩), .int .i64 (o : Int)] 120) = Wb := ⟨_, rfl⟩
          have Bb : Below wx.heap.size wx Wb := by rw [← hWb]; exact below_alloc (Below.refl _ _) _
          have HRb := Aside0.mk (Kd.R_below (Kd.R_below Hrow.out HBx.out) Bb)
          have HCb := Aside0.mk (show Wb.heap[wx.heap.size]? = some (.cells #[.pointer (some ⟨(p, o).1, 0, none⟩), .int .i64 ((p, o).2 : Int)] 120 (0, 0)) by rw [← hWb]; exact heap_alloc_new _ _)
          have HBb := Aside0.mk Bb
          have hlk2 := Hvr.out wx HBx.out
          have Hx := Aside0.mk (And.intro x1 (And.intro x2 (And.intro x3 (And.intro x4 (And.intro x5 x6)))))
          have Hcn := Aside0.mk (show ch < maxLen by have := HN.out; have := Hn.out.2; have := Ho.out; unfold maxLen; omega)
          have HMb := Aside0.mk (fun (w3 : World) (hC : Chg (fun k => lab k = some ts) Wb w3) => (show MapP Tryz.prog 9 w3 mh fh ch by
            have h := (x1.below Bb).chg hC (fun h => by rw [x4] at h; cases h)
            rw [Hmh.out] at h; exact h))
          have Hkey := Aside0.mk (strLit_key (show sOk ts by rw [← Hts.out.1]; exact Hsk.out))
          have Hmg := Aside0.mk hmg
          clear hmg x1 x2 x3 x4 x5 x6 Bb hjn hj
          go_wp2_with (first
            | (at_builtin; refine appD (G := fun k => lab k = some ts) rfl _ _ rfl _ (rowsG M S T pa o ts) (p, o) _ (by rfl) (by rfl) HRb.out HCb.out (by have := Hts.out.2; have := Hn8.out; have := Ho.out; have := Hn.out.2; omega) ?_; intro v3 w3 ho1 hg1 hc1; obtain ⟨A3, c3, hv3, hv3a, hv3b⟩ := Kd.R_reads ho1; clear hv3a hv3b; generalize (rowsG M S T pa o ts ++ [(p, o)]).length = n3 at hv3; subst hv3; have HO1 := Aside0.mk (And.intro ho1 hc1); have HM3 := Aside0.mk (HMb.out w3 hc1); clear ho1 hg1 hc1)
            | (at_mapUpdate; refine wp_store (val := .slice A3 n3 c3) rfl _ _ _ 115 9 118 rfl HM3.out law9 Tryz.underlying115 Hcn.out rfl rfl rfl Hkey.out ?_; intro w9 hM9 hg9; have HM9 := Aside0.mk hM9; have HC9 := Aside0.mk (Chg.of_grown (F := fun k => k = mh) hg9 (fun k hk => by cases hk; rfl)); clear hM9 hg9)
            | fail)
          have hM9 := HM9.out
          have hC9 := HC9.out
          rw [← Hmh.out] at hM9 hC9
          obtain ⟨y1, y2, y3⟩ := hx_push (s := ts) (x := (p, o)) (N := N + 1) Hx.out.1 Hx.out.2.2.1 Hx.out.2.2.2.1 Hx.out.2.2.2.2.1 Hx.out.2.2.2.2.2 HMx.out.bel.size HBb.out HO1.out.1 HO1.out.2 hM9 (by have := Hx.out.2.1; split <;> omega) hC9
          have HM10 := Aside0.mk (show MS T E w w9 Ft1 (labX lab Wb w3 ts) (.slice (some ⟨gT, 0, none⟩) (o + 1) cT) (mapL M S (o + 1)) (rowsG M S T (fun k => if k = o then p else pa k) (o + 1)) (N + 1) by
            rw [mapL_snoc, Hmg.out, ← rows_more HMo.out Hmg.out, Hts.out.1]
            exact HMx.out.push y1 y2 y3 HAx.out)
          have HN10 := Aside0.mk (show N + 1 ≤ o + 1 by have := HN.out; omega)
          clear hM9 hC9 y1 y2 y3
          go_roundw
          case rel => exact ⟨o + 1, Ft1, _, _, N + 1, by go_num, Ho.out, HM10, HN10⟩
          case measure => have := Ho.out; simp [intOf]; omega
    · have hnb : decide ((o : Int) < (nT : Int)) = false := decide_eq_false (by omega)
      have hnc : decide (o < nT) = false := decide_eq_false hon
      obtain rfl : o = nT := by omega
      have HE := Aside0.mk (And.intro (Gr.OwF.own HMS.out.own (base := w.heap.size) (fun k hk => (HMS.out.ft k hk).1)) HMS.out.bel)
      clear hon ho
      go_wp2_with fail
      go_ret2
      exact ⟨_, rfl, HE.out.1, HE.out.2⟩

end Go.Proofs.YtkpadjhdneiniaaGreatDoor.Am
