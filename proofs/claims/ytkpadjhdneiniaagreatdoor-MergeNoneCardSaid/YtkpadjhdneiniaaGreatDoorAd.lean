/- Ad, Ae, Af, Ag, Ah, Ai, Aj -/
import Derived.Test.YtkpadjhdneiniaaGreatDoorAc
import Derived.Test.YtkpadjhdneiniaaGreatDoorAu
import Derived.StringKeys
/- Ad: auto.Auto: how it lies while it is built. -/
section
namespace Go.Proofs.YtkpadjhdneiniaaGreatDoor.Am
set_option linter.unusedVariables false
open Go.RowKit Go.Proofs.YtkpadjhdneiniaaGreatDoorW.PrintWords Go.Proofs.YtkpadjhdneiniaaGreatDoorW.PrintLast Go.Proofs.YtkpadjhdneiniaaGreatDoorW.PrintMore Go.Maps
open Go.Proofs.YtkpadjhdneiniaaGreatDoor.Base Go.Proofs.YtkpadjhdneiniaaGreatDoor.Map Go.Proofs.YtkpadjhdneiniaaGreatDoor.Sl Go.Proofs.YtkpadjhdneiniaaGreatDoor.Ow Go.Proofs.YtkpadjhdneiniaaGreatDoor.Se Go.Proofs.YtkpadjhdneiniaaGreatDoor.Gr Go.Proofs.YtkpadjhdneiniaaGreatDoor.Rf Go.Proofs.YtkpadjhdneiniaaGreatDoor.Tx Go.Proofs.YtkpadjhdneiniaaGreatDoor.Au

theorem row92 : (92 : TypeId) < Tryz.prog.types.size := of_decide_eq_true (by kernel_rfl)
set_option maxRecDepth 100000 in
theorem wideA : (match Tryz.prog.underlying 92 with | some (.array _ _) | some (.struct _) => true | _ => false) = true := by kernel_rfl
set_option maxRecDepth 100000 in
theorem lawA : Keyed Tryz.prog 92 := Keyed.of_law (deep_law_laid laidOutI (m := 3) (by omega) row92 (by kernel_rfl) wideA)
theorem keyTypeA : Tryz.prog.keyType 92 = true := by kernel_rfl
theorem cells92 : Tryz.prog.cellsOf 92 = 2 := by kernel_rfl
def arrV (a f : Int) : Value := .agg #[.int .i64 a, .int .i64 f]
theorem sizeA : ∃ m, Tryz.prog.types.size + 1 = m + 2 := ⟨Tryz.prog.types.size - 1, by have h : (92 : Nat) < Tryz.prog.types.size := row92; omega⟩
theorem arr_key {a f : Int} (ha : ok64 a) (hf : ok64 f) : ∃ kl, keyOf Tryz.prog 92 (arrV a f) = some kl := by
  unfold arrV
  obtain ⟨m, hm⟩ := sizeA
  unfold keyOf
  simp only [Tryz.underlying92]
  rw [if_pos (by simp [keyTypeA, Value.formed, Tryz.underlying92, cells92]), hm]
  refine Option.isSome_iff_exists.1 ?_
  rw [Option.isSome_map]
  unfold Program.keyLits
  simp only [Tryz.underlying92, Value.cells]
  rw [if_pos (by simp [cells92])]
  rw [Option.isSome_map]
  simp only [List.mapM_cons, List.mapM_nil, cells3]
  unfold Program.keyLits
  simp only [Tryz.underlying3, cells3]
  simp [ha, hf]
open Classical in
noncomputable def arrL (a f : Int) : Lit := (keyOf Tryz.prog 92 (arrV a f)).getD (.bool false)
theorem arrL_key {a f : Int} (ha : ok64 a) (hf : ok64 f) : keyOf Tryz.prog 92 (arrV a f) = some (arrL a f) := by
  obtain ⟨kl, hk⟩ := arr_key ha hf
  unfold arrL; rw [hk]; rfl
theorem arrL_inj {a f a' f' : Int} (ha : ok64 a) (hf : ok64 f) (ha' : ok64 a') (hf' : ok64 f') (h : arrL a f = arrL a' f') : a = a' ∧ f = f' := by
  have kb := arrL_key ha' hf'
  rw [← h] at kb
  have e := lawA.inj (arrL_key ha hf) kb
  unfold arrV at e
  simp only [Value.agg.injEq, Array.mk.injEq, List.cons.injEq, Value.int.injEq, true_and, and_true] at e
  exact e


def strLit (s : ByteArray) : Lit := .string s.data.toList
def sOk (s : ByteArray) : Prop := s.size ≤ maxLen
theorem law9 : Keyed Tryz.prog 9 := string_keyed Tryz.underlying9
theorem strLit_key {s : ByteArray} (h : sOk s) : keyOf Tryz.prog 9 (.string s) = some (strLit s) := WideMaps.keyOf_string_mk Tryz.underlying9 h
theorem strLit_inj {a b : ByteArray} (h : strLit a = strLit b) : a = b := by
  have e : a.data.toList = b.data.toList := by simpa [strLit] using h
  exact ByteArray.ext (Array.toList_inj.1 e)
theorem zero3 (w : World) : (zeroValue 3).run Tryz.prog w = .ok (.int .i64 0) w := by kernel_rfl
/-! slices as they stand -/
abbrev SlH := Option Addr × Nat × Nat
def encH (x : SlH) : Value := .slice x.1 x.2.1 x.2.2
abbrev kH : Kd SlH := Kd.scalar encH (fun _ => rfl)
abbrev noH : SlH := (none, 0, 0)
theorem info26 : (Tryz.prog.info? 26).map (fun i => (i.zero, i.size, i.bytes)) = some (some (.slice none 0 0), 1, 24) := by kernel_rfl
theorem RdV.enc {w : World} {v : Value} {l : List Int} (h : RdV w v l) : ∃ x : SlH, v = encH x ∧ x.2.1 = l.length := by
  obtain ⟨A, c, rfl, _, _⟩ := h
  exact ⟨(A, l.length, c), rfl, rfl⟩
/-- it reads so, whatever changes of F -/
def Stay (F : Nat → Prop) (w : World) (v : Value) (l : List Int) : Prop := ∀ W, Chg F w W → RdV W v l
section
variable {F F' : Nat → Prop} {w w' : World} {v : Value} {l : List Int}
theorem Stay.rd (h : Stay F w v l) : RdV w v l := h w (Chg.refl F w)
theorem Stay.next (h : Stay F w v l) (hC : Chg F w w') (hF : ∀ k, F' k → F k ∨ w.heap.size ≤ k) : Stay F' w' v l := fun W hW => h W (hC.then_ hW hF)
theorem Stay.below (h : Stay F w v l) (hb : Below w.heap.size w w') : Stay F w' v l := h.next (Chg.of_below hb F) (fun k hk => .inl hk)
theorem Stay.of_own {G : Nat → Prop} (h : OwF w G v l) (hd : ∀ k, G k → ¬ F k) : Stay F w v l := fun W hW => (h.chg hW hd).toV
end
/-- where a list stands -/
def idx (L : List (List Int)) (l : List Int) : Option Nat := if l ∈ L then some (L.idxOf l) else none
theorem idx_some {L : List (List Int)} {l : List Int} (h : l ∈ L) : idx L l = some (L.idxOf l) := if_pos h
theorem idx_none {L : List (List Int)} {l : List Int} (h : l ∉ L) : idx L l = none := if_neg h
theorem idx_snoc {L : List (List Int)} {s l : List Int} (hs : s ∉ L) : idx (L ++ [s]) l = if l = s then some L.length else idx L l := by
  unfold idx
  by_cases e : l = s
  · subst e
    rw [if_pos rfl, if_pos (by simp), List.idxOf_append, if_neg hs]; simp
  · rw [if_neg e]
    by_cases h : l ∈ L
    · rw [if_pos (by simp [h]), if_pos h, List.idxOf_append, if_pos h]
    · rw [if_neg (by simp [h, e]), if_neg h]
/-- F, and what is older than an automaton in block p -/
def FP (F : Nat → Prop) (p : Nat) (k : Nat) : Prop := F k ∨ k + 2 < p
theorem fp_ext {F F' : Nat → Prop} {p : Nat} {w : World} (h : ∀ k, F' k → F k ∨ w.heap.size ≤ k) (k : Nat) (hk : FP F' p k) : FP F p k ∨ w.heap.size ≤ k := hk.elim (fun h1 => (h k h1).imp .inl id) (fun h1 => .inl (.inr h1))
theorem chg_fp {F : Nat → Prop} {p : Nat} {w w' : World} (h : Chg F w w') : Chg (FP F p) w w' := h.mono (fun _ _ hk => .inl hk)
/-- An automaton in block p, of the graph in block pg: its states L, where fields lead st. -/
structure AuX (w : World) (F : Nat → Prop) (p pg : Nat) (L : List (List Int)) (st : Int → Int → Option Int) (M : Nat) : Prop where
  mk :: (out : ∃ (vS : Value) (hs : List SlH) (ms mi : Nat) (fs fi : Lit → Option Value) (cs ci : Nat),
    w.heap[p]? = some (.cells #[.pointer (some ⟨pg, 0, none⟩), vS, .map (some ms), .map (some mi)] 88 (0, 0)) ∧
    Kd.R kH 26 w 0 F vS hs ∧ hs.length = L.length ∧ (∀ j, j < L.length → Stay (FP F p) w (encH (hs.getD j noH)) (L.getD j [])) ∧
    MapP Tryz.prog 92 w ms fs cs ∧ MapP Tryz.prog 9 w mi fi ci ∧ (F p ∧ F ms ∧ F mi ∧ ms ≠ mi) ∧
    (∀ a f, ok64 a → ok64 f → fs (arrL a f) = (st a f).map (Value.int .i64)) ∧
    (∀ l, fi (strLit (textS l)) = (idx L l).map fun j => .int .i64 (j : Int)) ∧ cs ≤ M ∧ ci ≤ M)
section
variable {F F' : Nat → Prop} {w w' : World} {p pg M : Nat} {L : List (List Int)} {st : Int → Int → Option Int}
theorem AuX.below (h : AuX w F p pg L st M) (hb : Below w.heap.size w w') : AuX w' F p pg L st M := by
  obtain ⟨vS, hs, ms, mi, fs, fi, cs, ci, h1, h2, h3, h4, h5, h6, h7⟩ := h
  exact ⟨vS, hs, ms, mi, fs, fi, cs, ci, Ow.blk_below h1 hb, Kd.R_below h2 hb, h3, fun j hj => (h4 j hj).below hb, h5.below hb, h6.below hb, h7⟩
theorem AuX.more {M' : Nat} (h : AuX w F p pg L st M) (hM : M ≤ M') : AuX w F p pg L st M' := by
  obtain ⟨vS, hs, ms, mi, fs, fi, cs, ci, h1, h2, h3, h4, h5, h6, h7, h8, h9, h10, h11⟩ := h
  exact ⟨vS, hs, ms, mi, fs, fi, cs, ci, h1, h2, h3, h4, h5, h6, h7, h8, h9, by omega, by omega⟩
end
/-! append -/
section
variable {ops : Array Oper} {rest : List Oper} {o : Oper} {a : Act} {Q : Exit → Act → World → Prop}
theorem appH {W : World} {G : Nat → Prop} (hgd : o.guard = none) (s x : Operand)
    (ho : o.op = .call { callee := .builtin .append, args := #[s, x], argTypes := #[45, 45] })
    (v : Value) (xs : List SlH) (y : SlH) (g : Nat) (hs : a.eval s = v) (hx : a.eval x = .slice (some ⟨g, 0, none⟩) 1 1)
    (HO : Kd.R kH 26 W 0 G v xs) (HR : W.cell? ⟨g, 0, none⟩ = some (encH y)) (hl : (xs.length + 1) * 24 ≤ 140737488355328)
    (h : ∀ v1 w1, Kd.R kH 26 w1 0 (ext G W w1) v1 (xs ++ [y]) → W.grownBy w1 v.ownBlock → Chg G W w1 → wpList Tryz.prog ops Q rest (a.put o.dst v1) w1) :
    wpList Tryz.prog ops Q (o :: rest) a W := by
  exact Kd.R_append_row encH noH (h1 := fun _ => rfl) (w0 := W) 0 hgd s x 45 26 (.slice none 0 0) 24 ho Tryz.underlying45 info26 rfl (by decide) v xs [y] (some ⟨g, 0, none⟩) 1 1 (fun k => G k ∨ W.heap.size ≤ k) hs hx (fun _ hk => .inr hk) (Kd.R_mono HO (fun k hk => .inl hk))
    (Kd.C_of_reads (enc := encH) (d := noH) (h1 := fun _ => rfl) ⟨rfl, by decide, fun _ => ⟨_, rfl, fun j hj => by
      obtain rfl : j = 0 := by omega
      exact HR⟩⟩) (Below.refl _ _) (Nat.zero_le _) hl
    (fun v1 w1 ho hb hg hat => h v1 w1 (Kd.R_mono (Kd.R_bound ho) (fun k hk => hk.1.elim .inl (fun h => .inr ⟨h, hk.2.2.1⟩))) hg (Chg.of_grown hg (fun k hk => HO.1 k hk)))
end
end Go.Proofs.YtkpadjhdneiniaaGreatDoor.Am
end

/- Ae: auto.Auto: state, there, Len, State, Step. -/
section
namespace Go.Proofs.YtkpadjhdneiniaaGreatDoor.Am
set_option linter.unusedVariables false
open Go.RowKit Go.Proofs.YtkpadjhdneiniaaGreatDoorW.PrintWords Go.Proofs.YtkpadjhdneiniaaGreatDoorW.PrintLast Go.Proofs.YtkpadjhdneiniaaGreatDoorW.PrintMore Go.Maps
open Go.Proofs.YtkpadjhdneiniaaGreatDoor.Base Go.Proofs.YtkpadjhdneiniaaGreatDoor.Map Go.Proofs.YtkpadjhdneiniaaGreatDoor.Sl Go.Proofs.YtkpadjhdneiniaaGreatDoor.Ow Go.Proofs.YtkpadjhdneiniaaGreatDoor.Se Go.Proofs.YtkpadjhdneiniaaGreatDoor.Gr Go.Proofs.YtkpadjhdneiniaaGreatDoor.Rf Go.Proofs.YtkpadjhdneiniaaGreatDoor.Tx Go.Proofs.YtkpadjhdneiniaaGreatDoor.Au


section
variable {F : Nat → Prop} {w w1 : World} {p pg M : Nat} {L : List (List Int)} {st : Int → Int → Option Int}
theorem AuX.grow (h : AuX w F p pg L st M) (hb : Below w.heap.size w w1) : AuX w1 (ext F w w1) p pg L st M := by
  obtain ⟨vS, hs, ms, mi, fs, fi, cs, ci, h1, h2, h3, h4, h5, h6, h7, h8⟩ := h
  exact ⟨vS, hs, ms, mi, fs, fi, cs, ci, Ow.blk_below h1 hb, Kd.R_mono (Kd.R_below h2 hb) (fun k hk => .inl hk), h3, fun j hj => (h4 j hj).next (Chg.of_below hb _) (fp_ext (fun k hk => hk.elim .inl (fun h => .inr h.1))), h5.below hb, h6.below hb, ⟨.inl h7.1, .inl h7.2.1, .inl h7.2.2.1, h7.2.2.2⟩, h8⟩
end
theorem au_push {w w1 w2 w3 : World} {F : Nat → Prop} {p pg M ms mi cs ci : Nat} {L : List (List Int)} {st : Int → Int → Option Int} {vS v3 : Value} {hs : List SlH} {fs fi : Lit → Option Value} {u : Value} {x : SlH} {l : List Int} (hb : Below w.heap.size w w1)
    (h1 : w1.heap[p]? = some (.cells #[.pointer (some ⟨pg, 0, none⟩), vS, .map (some ms), .map (some mi)] 88 (0, 0))) (h2 : Kd.R kH 26 w1 0 F vS hs) (h3 : hs.length = L.length) (h4 : ∀ j, j < L.length → Stay (FP F p) w (encH (hs.getD j noH)) (L.getD j []))
    (h5 : MapP Tryz.prog 92 w1 ms fs cs) (h6 : MapP Tryz.prog 9 w1 mi fi ci) (h7 : F p ∧ F ms ∧ F mi ∧ ms ≠ mi) (h8 : ∀ a f, ok64 a → ok64 f → fs (arrL a f) = (st a f).map (Value.int .i64))
    (h9 : ∀ l, fi (strLit (textS l)) = (idx L l).map fun j => .int .i64 (j : Int)) (h10 : cs ≤ M) (h11 : ci ≤ M) (hu : Stay (FP F p) w u l) (hx : u = encH x) (hl : l ∉ L)
    (hM2 : MapP Tryz.prog 9 w2 mi (upd fi (strLit (textS l)) (some (.int .i64 (L.length : Int)))) (ci + 1)) (hC2 : Chg (fun k => k = mi) w1 w2)
    (hR : Kd.R kH 26 w3 0 (ext F (w2.alloc (.cells #[u] 26)) w3) v3 (hs ++ [x])) (hg : (w2.alloc (.cells #[u] 26)).grownBy w3 vS.ownBlock) (hC3 : Chg F (w2.alloc (.cells #[u] 26)) w3) :
    AuX (w3.setCell ⟨p, 1, none⟩ v3) (ext F w (w3.setCell ⟨p, 1, none⟩ v3)) p pg (L ++ [l]) st (M + 1) ∧ Chg F w (w3.setCell ⟨p, 1, none⟩ v3) ∧ (w3.setCell ⟨p, 1, none⟩ v3).cell? ⟨p, 2, none⟩ = w1.cell? ⟨p, 2, none⟩ := by
  obtain ⟨es, ck, hmi⟩ := h6.at_block
  obtain ⟨es2, ck2, hms⟩ := h5.at_block
  have np : p ≠ mi := fun e => by rw [e, hmi] at h1; cases h1
  have hal : Below w2.heap.size w2 (w2.alloc (.cells #[u] 26)) := below_alloc (Below.refl _ _) _
  have b2 := hC2.blk h1 np
  have bx := Ow.blk_below b2 hal
  have ow := Kd.own_of_R h2
  have nS : ∀ {W : World} {k : Nat} {o : Obj}, w1.heap[k]? = some o → (∀ cs : Array Value, o ≠ .cells cs 26 (0, 0)) → vS.ownBlock ≠ some k := fun {W k o} hk ho e => by
    obtain ⟨cells, hc⟩ := own_typed ow k e
    rw [hk] at hc
    exact ho _ (Option.some.inj hc)
  have nSp : vS.ownBlock ≠ some p := nS (W := w1) h1 (fun cs e => by cases e)
  have nSms : vS.ownBlock ≠ some ms := nS (W := w1) hms (fun cs e => by cases e)
  have nSmi : vS.ownBlock ≠ some mi := nS (W := w1) hmi (fun cs e => by cases e)
  have b3 : w3.heap[p]? = some (.cells #[.pointer (some ⟨pg, 0, none⟩), vS, .map (some ms), .map (some mi)] 88 (0, 0)) := (hg.block p (blk_lt bx) (fun e => nSp e.symm)).trans bx
  have m2 := (h5.chg hC2 (fun e => h7.2.2.2 e)).below hal
  have m3 : MapP Tryz.prog 92 w3 ms fs cs := m2.move (hg.block ms m2.lt (fun e => nSms e.symm))
  have i2 := hM2.below hal
  have i3 := i2.move (hg.block mi i2.lt (fun e => nSmi e.symm))
  have npm : p ≠ ms := fun e => by rw [e, hms] at h1; cases h1
  have m4 : MapP Tryz.prog 92 (w3.setCell ⟨p, 1, none⟩ v3) ms fs cs := m3.move (Below.heap_setCell w3 ⟨p, 1, none⟩ v3 ms (fun e => npm e.symm))
  have i4 := i3.move (Below.heap_setCell w3 ⟨p, 1, none⟩ v3 mi (fun e => np e.symm))
  have hC12 : Chg F w1 w2 := hC2.mono (fun k _ e => e ▸ h7.2.2.1)
  have hC13 : Chg F w1 w3 := (hC12.andBelow hal).then_ hC3 (fun k hk => .inl hk)
  have hC14 : Chg F w1 (w3.setCell ⟨p, 1, none⟩ v3) := hC13.then_ (Chg.setCell w3 (F := F) (p := ⟨p, 1, none⟩) h7.1 v3) (fun k hk => .inl hk)
  have hC : Chg F w (w3.setCell ⟨p, 1, none⟩ v3) := (Chg.of_below hb F).then_ hC14 (fun k hk => .inl hk)
  have hsz : (w3.setCell ⟨p, 1, none⟩ v3).heap.size = w3.heap.size := by simp [World.setCell]
  have hF : ∀ k, ext F w (w3.setCell ⟨p, 1, none⟩ v3) k → F k ∨ w.heap.size ≤ k := fun k hk => hk.elim .inl (fun h => .inr h.1)
  have hCw : Chg F w w1 := Chg.of_below hb F
  refine ⟨⟨v3, hs ++ [x], ms, mi, fs, _, cs, ci + 1, ?_, ?_, by simp [h3], fun j hj => ?_, m4, i4, ⟨.inl h7.1, .inl h7.2.1, .inl h7.2.2.1, h7.2.2.2⟩, h8, fun l' => ?_, by omega, by omega⟩, hC, ?_⟩
  · have := blk_set b3 1 v3
    simpa using this
  · refine Kd.R_mono (Kd.R_set hR b3 (fun q hq => by rcases List.mem_cons.1 hq with rfl | hq; decide; cases hq) 1 v3) (fun k hk => hk.elim .inl (fun h => .inr ⟨?_, by rw [hsz]; exact h.2⟩))
    have h20 := h.1
    have h21 := hal.size
    have h22 := hC2.size
    have h23 := hb.size
    omega
  · rw [List.length_append, List.length_singleton] at hj
    by_cases e : j < L.length
    · have e1 : (hs ++ [x]).getD j noH = hs.getD j noH := by rw [List.getD_eq_getElem?_getD, List.getD_eq_getElem?_getD, List.getElem?_append_left (by omega)]
      have e2 : (L ++ [l]).getD j [] = L.getD j [] := by rw [List.getD_eq_getElem?_getD, List.getD_eq_getElem?_getD, List.getElem?_append_left e]
      rw [e1, e2]
      exact (h4 j e).next (chg_fp hC) (fp_ext hF)
    · have e1 : (hs ++ [x]).getD j noH = x := by
        obtain rfl : j = hs.length := by omega
        rw [List.getD_eq_getElem?_getD, List.getElem?_append_right (Nat.le_refl _)]; simp
      have e2 : (L ++ [l]).getD j [] = l := by
        obtain rfl : j = L.length := by omega
        rw [List.getD_eq_getElem?_getD, List.getElem?_append_right (Nat.le_refl _)]; simp
      rw [e1, e2, ← hx]
      exact hu.next (chg_fp hC) (fp_ext hF)
  · rw [idx_snoc hl]
    by_cases e : l' = l
    · subst e; rw [upd_same, if_pos rfl]; rfl
    · rw [if_neg e, upd_other _ (fun h => e (textS_inj (strLit_inj h)))]; exact h9 l'
  · have e1 := blk_set b3 1 v3
    rw [blk_cellD h1 2 _ rfl]
    exact blk_cellD e1 2 _ (by simp)
theorem meet_old {L : List (List Int)} {l : List Int} (h : l ∈ L) : meet L l = L := if_pos h
theorem meet_new {L : List (List Int)} {l : List Int} (h : l ∉ L) : meet L l = L ++ [l] := if_neg h
set_option maxHeartbeats 8000000 in
set_option maxRecDepth 100000 in
theorem state_any (p pg M : Nat) (F : Nat → Prop) (L : List (List Int)) (st : Int → Int → Option Int) (u : Value) (l : List Int) (w : World) (h : AuX w F p pg L st M) (hu : Stay (FP F p) w u l) (hP : P10 w) (hok : ∀ x ∈ l, ok64 x) (hl : l.length ≤ 100) (hL : L.length ≤ 1000) (hM : M ≤ 1000000) :
    Calls Tryz.prog 63 #[.pointer (some ⟨p, 0, none⟩), u] w fun e w' => e = .returned (.int .i64 ((meet L l).idxOf l : Nat)) ∧ AuX w' (ext F w w') p pg (meet L l) st (M + 1) ∧ Chg F w w' ∧ w'.cell? ⟨p, 2, none⟩ = w.cell? ⟨p, 2, none⟩ := by
  have HT := Aside0.mk (text_any u l w hu.rd hP hok hl)
  have Hs := Aside0.mk (show sOk (textS l) by have := textS_size l hok hl; unfold sOk maxLen; omega)
  have H := Aside0.mk h
  have HU := Aside0.mk hu
  have Hl := Aside0.mk (And.intro hl (And.intro hL hM))
  obtain ⟨s, hs⟩ : ∃ s, textS l = s := ⟨_, rfl⟩
  rw [hs] at HT Hs
  have Hss := Aside0.mk hs
  obtain ⟨L', hL'⟩ : ∃ x, meet L l = x := ⟨_, rfl⟩
  rw [hL']
  obtain ⟨q, hq⟩ : ∃ q, L'.idxOf l = q := ⟨_, rfl⟩
  rw [hq]
  have HL' := Aside0.mk (And.intro hL' hq)
  clear h hu hP hok hl hL hM hs hL' hq
  go_enter Tryz.func63, Tryz.ntmps63
  go_wp2_with fail
  refine HT.out.mono ?_
  rintro e w1 ⟨rfl, r1⟩
  have HB1 := Aside0.mk r1
  obtain ⟨vS, hs, ms, mi, fs, fi, cs, ci, h1, h2, h3, h4, h5, h6, h7, h8, h9, h10, h11⟩ := H.out
  have h1' := Ow.blk_below h1 r1
  have h2' := Kd.R_below h2 r1
  have h5' := h5.below r1
  have h6' := h6.below r1
  have hkey := strLit_key Hs.out
  have hlk := h6'.look_ok law9 Tryz.underlying86 (zero3 _) hkey
  have h9l := h9 l
  rw [Hss.out] at h9l
  have c1 : w1.cell? ⟨p, 1, none⟩ = some vS := blk_cellD h1' 1 _ rfl
  have c3 : w1.cell? ⟨p, 3, none⟩ = some (.map (some mi)) := blk_cellD h1' 3 _ rfl
  have Hc2 := Aside0.mk (show w1.cell? ⟨p, 2, none⟩ = w.cell? ⟨p, 2, none⟩ by rw [blk_cellD h1' 2 _ rfl, blk_cellD h1 2 _ rfl])
  have HH := Aside0.mk (And.intro h1' (And.intro h2' (And.intro h3 (And.intro h4 (And.intro h5' (And.intro h6' (And.intro h7 (And.intro h8 (And.intro h9 (And.intro h10 h11))))))))))
  have Hkey := Aside0.mk hkey
  clear r1 HT h1 h2 h3 h4 h5 h6 h7 h8 h9 h10 h11 h1' h2' h5' h6' hkey
  by_cases hm : l ∈ L
  · rw [idx_some hm] at h9l
    have h9l : fi (strLit s) = some (.int .i64 ((L.idxOf l : Nat) : Int)) := h9l
    rw [h9l] at hlk
    simp only [Option.getD_some, Option.isSome_some] at hlk
    have e1 : L' = L := by rw [← HL'.out.1, meet_old hm]
    subst e1
    rw [HL'.out.2] at hlk
    clear hm h9l c1
    go_wp2_with fail
    go_ret
    exact ⟨rfl, (H.out.grow HB1.out).more (Nat.le_succ _), Chg.of_below HB1.out F, by rw [Hc2.out]⟩
  · rw [idx_none hm] at h9l
    have h9l : fi (strLit s) = none := h9l
    rw [h9l] at hlk
    simp only [Option.getD_none, Option.isSome_none] at hlk
    have e1 : L' = L ++ [l] := by rw [← HL'.out.1, meet_new hm]
    have hix : q = L.length := by rw [← HL'.out.2, e1, List.idxOf_append, if_neg hm]; simp
    have He1 := Aside0.mk (And.intro e1 hix)
    clear e1
    have Hm := Aside0.mk (And.intro hm h9l)
    obtain ⟨A, c, rfl, hcc, hreads⟩ := Kd.R_reads HH.out.2.1
    have hlen : hs.length = L.length := HH.out.2.2.1
    rw [hlen] at c1
    have Hlen := Aside0.mk hlen
    obtain ⟨n, hn⟩ : ∃ n, L.length = n := ⟨_, rfl⟩
    have Hq := Aside0.mk hix
    rw [hn] at c1 hix
    subst hix
    have Hn := Aside0.mk hn
    have hn0 : (q : Int) ≤ 1000000 := by have := Hl.out; have := Hn.out; omega
    obtain ⟨⟨xa, xn, xc⟩, hxe0, hx2⟩ := Am.RdV.enc HU.out.rd
    have hxe : u = .slice xa xn xc := hxe0
    clear hxe0
    subst hxe
    have Hcn := Aside0.mk (show ci < maxLen by have := HH.out.2.2.2.2.2.2.2.2.2.2; have := Hl.out; unfold maxLen; omega)
    have Hb2 := Aside0.mk (fun (W : World) (hC : Chg (fun k => k = mi) w1 W) => (show W.heap[p]? = some (.cells #[.pointer (some ⟨pg, 0, none⟩), .slice A q c, .map (some ms), .map (some mi)] 88 (0, 0)) by
      have hb := HH.out.1
      obtain ⟨es, ck, hmi⟩ := HH.out.2.2.2.2.2.1.at_block
      have np : p ≠ mi := fun e => by rw [e, hmi] at hb; cases hb
      have := hC.blk hb np
      rw [Hlen.out, Hn.out] at this
      exact this))
    have Hb3 := Aside0.mk (fun (W Wx : World) (hb : W.heap[p]? = some (.cells #[.pointer (some ⟨pg, 0, none⟩), .slice A q c, .map (some ms), .map (some mi)] 88 (0, 0))) (hg : W.grownBy Wx (Value.slice A q c).ownBlock) => (show Wx.heap[p]? = some (.cells #[.pointer (some ⟨pg, 0, none⟩), .slice A q c, .map (some ms), .map (some mi)] 88 (0, 0)) by
      have ow := Kd.own_of_R HH.out.2.1
      rw [Hlen.out, Hn.out] at ow
      refine (hg.block p (blk_lt hb) (fun e => ?_)).trans hb
      obtain ⟨cells, hc⟩ := own_typed ow p e.symm
      rw [HH.out.1] at hc
      cases hc))
    have HR2 := Aside0.mk (fun (W : World) (hC : Chg (fun k => k = mi) w1 W) => (show Kd.R kH 26 W 0 F (.slice A q c) hs by
      have hR := HH.out.2.1
      rw [Hlen.out, Hn.out] at hR
      obtain ⟨es, ck, hmi⟩ := HH.out.2.2.2.2.2.1.at_block
      have ow := Kd.own_of_R hR
      have hR2 : Kd.R kH 26 w1 0 (fun k => F k ∧ k ≠ mi) (.slice A q c) hs := ⟨fun k hk => ⟨hR.1 k hk, fun e => by
        obtain ⟨cells, hc⟩ := own_typed ow k hk
        rw [e, hmi] at hc
        cases hc⟩, hR.2⟩
      exact Kd.R_mono (Kd.R_step hR2 (fun k hk hlt => hC.block k hlt hk.2)) (fun k hk => hk.1)))
    clear hm h9l hlen hn hcc hreads hx2
    go_wp2_with (first
      | (at_mapUpdate; refine wp_store (val := .int .i64 (q : Int)) rfl _ _ _ 86 9 3 rfl HH.out.2.2.2.2.2.1 law9 Tryz.underlying86 Hcn.out rfl rfl rfl Hkey.out ?_; intro w2 hM2 hg2; have hC2 := Aside0.mk (Chg.of_grown (F := fun k => k = mi) hg2 (fun k hk => by cases hk; rfl)); have HM2 := Aside0.mk hM2; have hb2 := Hb2.out w2 hC2.out; have HB2 := Aside0.mk hb2; have c1b : w2.cell? ⟨p, 1, none⟩ = some (.slice A q c) := blk_cellD hb2 1 _ rfl; have HRx := Aside0.mk (Kd.R_below (HR2.out w2 hC2.out) (below_alloc (Below.refl w2.heap.size w2) (.cells #[.slice xa xn xc] 26))); have Hcx := Aside0.mk (show (w2.alloc (.cells #[.slice xa xn xc] 26)).cell? ⟨w2.heap.size, 0, none⟩ = some (encH (xa, xn, xc)) from blk_cell (heap_alloc_new _ _) 0); clear hM2 hg2 hb2)
      | (at_builtin; refine appH (G := F) rfl (.tmp 36) (.tmp 38) rfl (.slice A q c) hs (xa, xn, xc) w2.heap.size (by rfl) (by rfl) HRx.out Hcx.out (by have := Hlen.out; have := Hl.out; omega) ?_; intro v3 w3 ho1 hg1 hc1; obtain ⟨A3, c3, hv3, hv3a, hv3b⟩ := Kd.R_reads ho1; clear hv3a hv3b; generalize (hs ++ [(xa, xn, xc)]).length = n3 at hv3; subst hv3; have hb3 := Hb3.out _ w3 (Ow.blk_below HB2.out (below_alloc (Below.refl w2.heap.size w2) (.cells #[.slice xa xn xc] 26))) hg1; have d1 : w3.cell? ⟨p, 1, none⟩ = some (.slice A q c) := blk_cellD hb3 1 _ rfl; have f1 : w3.frozen? ⟨p, 1, none⟩ = false := blk_frozen hb3 1; have HO1 := Aside0.mk (And.intro ho1 (And.intro hg1 hc1)); clear hb3 ho1 hg1 hc1)
      | fail)
    obtain ⟨ho1, hg1, hc1⟩ := HO1.out
    have hq := Hn.out
    obtain ⟨k1, k2, k3, k⟩ := HH.out
    rw [Hlen.out, hq] at k1 k2
    have hpush := au_push (u := .slice xa xn xc) (x := (xa, xn, xc)) (l := l) HB1.out k1 k2 k3 k.1 k.2.1 k.2.2.1 k.2.2.2.1 k.2.2.2.2.1 k.2.2.2.2.2.1 k.2.2.2.2.2.2.1 k.2.2.2.2.2.2.2 HU.out rfl Hm.out.1 (by have h := HM2.out; rw [Hm.out.2] at h; rw [Hss.out, hq]; exact h) hC2.out ho1 hg1 hc1
    have Hp := Aside0.mk hpush
    rw [← He1.out.1] at Hp
    clear ho1 hg1 hc1 hpush hq
    go_wp2_with fail
    go_ret
    exact ⟨rfl, Hp.out.1, Hp.out.2.1, by rw [Hp.out.2.2]; exact Hc2.out⟩
end Go.Proofs.YtkpadjhdneiniaaGreatDoor.Am
end

/- Af: auto.Auto, read: there, Len, State, Types, Fields, Step. -/
section
namespace Go.Proofs.YtkpadjhdneiniaaGreatDoor.Am
set_option linter.unusedVariables false
open Go.RowKit Go.Proofs.YtkpadjhdneiniaaGreatDoorW.PrintWords Go.Proofs.YtkpadjhdneiniaaGreatDoorW.PrintLast Go.Proofs.YtkpadjhdneiniaaGreatDoorW.PrintMore Go.Maps
open Go.Proofs.YtkpadjhdneiniaaGreatDoor.Base Go.Proofs.YtkpadjhdneiniaaGreatDoor.Map Go.Proofs.YtkpadjhdneiniaaGreatDoor.Sl Go.Proofs.YtkpadjhdneiniaaGreatDoor.Ow Go.Proofs.YtkpadjhdneiniaaGreatDoor.Se Go.Proofs.YtkpadjhdneiniaaGreatDoor.Gr Go.Proofs.YtkpadjhdneiniaaGreatDoor.Rf Go.Proofs.YtkpadjhdneiniaaGreatDoor.Tx Go.Proofs.YtkpadjhdneiniaaGreatDoor.Au


/-- the state with a number; nothing, if there is none -/
def atG (L : List (List Int)) (k : Int) : List Int := if 0 ≤ k ∧ k < L.length then L.getD k.toNat [] else []
theorem atG_nat {L : List (List Int)} {k : Nat} (h : k < L.length) : atG L (k : Int) = L.getD k [] := by unfold atG; rw [if_pos ⟨by omega, by omega⟩]; simp
theorem atG_out {L : List (List Int)} {k : Int} (h : ¬ (0 ≤ k ∧ k < L.length)) : atG L k = [] := if_neg h
section
variable {F : Nat → Prop} {w : World} {p pg M : Nat} {L : List (List Int)} {st : Int → Int → Option Int}
theorem AuX.hdr (h : AuX w F p pg L st M) : ∃ A c ms mi, w.heap[p]? = some (.cells #[.pointer (some ⟨pg, 0, none⟩), .slice A L.length c, .map (some ms), .map (some mi)] 88 (0, 0)) ∧
    (∀ j, j < L.length → ∃ ad x, A = some ad ∧ w.cell? (ad.add j) = some (encH x) ∧ RdV w (encH x) (L.getD j [])) ∧
    ∃ fs cs, MapP Tryz.prog 92 w ms fs cs ∧ ∀ a f, ok64 a → ok64 f → fs (arrL a f) = (st a f).map (Value.int .i64) := by
  obtain ⟨vS, hs, ms, mi, fs, fi, cs, ci, h1, h2, h3, h4, h5, h6, h7, h8, h9⟩ := h
  obtain ⟨A, c, rfl, hc, hr⟩ := Kd.R_reads h2
  rw [h3] at h1
  refine ⟨A, c, ms, mi, h1, fun j hj => ?_, fs, cs, h5, h8⟩
  obtain ⟨ad, cc, hA, _, hk, hcc⟩ := Kd.C_get hr noH (j : Int) (by omega) (by omega)
  rw [Int.toNat_natCast] at hk hcc
  have hk' : cc = [encH (hs.getD j noH)] := hk
  subst hk'
  refine ⟨ad, hs.getD j noH, hA, ?_, (h4 j hj).rd⟩
  have := hcc 0 _ rfl
  have e : j * kH.sz + 0 = j := by show j * 1 + 0 = j; omega
  rw [e] at this
  exact this
end
set_option maxHeartbeats 4000000 in
theorem athere_any (p pg M : Nat) (F : Nat → Prop) (L : List (List Int)) (st : Int → Int → Option Int) (x : Int) (w : World) (h : AuX w F p pg L st M) :
    Calls Tryz.prog 65 #[.pointer (some ⟨p, 0, none⟩), .int .i64 x] w fun e w' => e = .returned (.bool (decide (0 ≤ x ∧ x < L.length))) ∧ w = w' := by
  obtain ⟨A, c, ms, mi, hb, -⟩ := h.hdr
  obtain ⟨n, hn⟩ : ∃ n, L.length = n := ⟨_, rfl⟩
  rw [hn] at hb ⊢
  have c1 : w.cell? ⟨p, 1, none⟩ = some (.slice A n c) := blk_cellD hb 1 _ rfl
  clear h hb
  by_cases h0 : 0 ≤ x
  · by_cases h1 : x < n
    · have d : decide (0 ≤ x ∧ x < (n : Int)) = true := decide_eq_true ⟨h0, h1⟩
      rw [d]
      go_enter Tryz.func65, Tryz.ntmps65
      go_wp2
      go_ret
      exact ⟨rfl, rfl⟩
    · have d : decide (0 ≤ x ∧ x < (n : Int)) = false := decide_eq_false (fun h => h1 h.2)
      have h2 : (n : Int) ≤ x := by omega
      rw [d]
      go_enter Tryz.func65, Tryz.ntmps65
      go_wp2
      go_ret
      exact ⟨rfl, rfl⟩
  · have d : decide (0 ≤ x ∧ x < (n : Int)) = false := decide_eq_false (fun h => h0 h.1)
    have h2 : x < 0 := by omega
    rw [d]
    go_enter Tryz.func65, Tryz.ntmps65
    go_wp2
    go_ret
    exact ⟨rfl, rfl⟩
set_option maxHeartbeats 4000000 in
theorem alen_any (p pg M : Nat) (F : Nat → Prop) (L : List (List Int)) (st : Int → Int → Option Int) (w : World) (h : AuX w F p pg L st M) :
    Calls Tryz.prog 26 #[.pointer (some ⟨p, 0, none⟩)] w fun e w' => e = .returned (.int .i64 (L.length : Int)) ∧ w = w' := by
  obtain ⟨A, c, ms, mi, hb, -⟩ := h.hdr
  obtain ⟨n, hn⟩ : ∃ n, L.length = n := ⟨_, rfl⟩
  rw [hn] at hb ⊢
  have c1 : w.cell? ⟨p, 1, none⟩ = some (.slice A n c) := blk_cellD hb 1 _ rfl
  clear h hb
  go_enter Tryz.func26, Tryz.ntmps26
  go_wp2
  go_ret
  exact ⟨rfl, rfl⟩
set_option maxHeartbeats 4000000 in
theorem astate_any (p pg M : Nat) (F : Nat → Prop) (L : List (List Int)) (st : Int → Int → Option Int) (x : Int) (w : World) (h : AuX w F p pg L st M) (hl : ∀ s ∈ L, s.length ≤ 1000) :
    Calls Tryz.prog 32 #[.pointer (some ⟨p, 0, none⟩), .int .i64 x] w fun e w' => ∃ v, e = .returned v ∧ RdV w' v (atG L x) ∧ Below w.heap.size w w' := by
  have HA := Aside0.mk (athere_any p pg M F L st x w h)
  obtain ⟨A, c, ms, mi, hb, hr, -⟩ := h.hdr
  by_cases hx : 0 ≤ x ∧ x < L.length
  · obtain ⟨m, rfl⟩ := Int.eq_ofNat_of_zero_le hx.1
    have hm : m < L.length := by omega
    obtain ⟨ad, ⟨xa, xn, xc⟩, rfl, e0, e1⟩ := hr m hm
    rw [atG_nat hm]
    have hd := decide_eq_true hx
    rw [hd] at HA
    have HC := Aside0.mk (clone_any _ _ w e1 (by have := hl (L.getD m []) (Gr.getD_mem hm); omega))
    obtain ⟨n, hn⟩ : ∃ n, L.length = n := ⟨_, rfl⟩
    rw [hn] at hb hm
    have c1 : w.cell? ⟨p, 1, none⟩ = some (.slice (some ad) n c) := blk_cellD hb 1 _ rfl
    have e0 : w.cell? (ad.add m) = some (.slice xa xn xc) := e0
    have HC : Aside0 (Calls Tryz.prog 68 #[.slice xa xn xc] w _) := HC
    have i0 : 0 ≤ (m : Int) := by omega
    have i1 : (m : Int) < (n : Int) := by omega
    clear hd hr hb e1 h hx hl hn hm
    replace i0 := eq_true i0
    replace i1 := eq_true i1
    go_enter Tryz.func32, Tryz.ntmps32
    go_wp2_with fail
    refine HA.out.mono ?_
    rintro e w' ⟨rfl, rfl⟩
    go_wp2_with fail
    refine HC.out.mono ?_
    rintro e w' ⟨v, rfl, r1, r2⟩
    go_wp2_with fail
    go_ret
    exact ⟨_, rfl, r1.toV, r2⟩
  · have hd := decide_eq_false hx
    rw [hd] at HA
    rw [atG_out hx]
    clear hd hr hb h hx hl
    go_enter Tryz.func32, Tryz.ntmps32
    go_wp2_with fail
    refine HA.out.mono ?_
    rintro e w' ⟨rfl, rfl⟩
    go_wp2_with fail
    go_ret
    exact ⟨_, rfl, RdV.nil _, Below.refl _ _⟩
end Go.Proofs.YtkpadjhdneiniaaGreatDoor.Am
end

/- Ag: auto.Auto, read: there, Len, State, Types, Fields, Step. -/
section
namespace Go.Proofs.YtkpadjhdneiniaaGreatDoor.Am
set_option linter.unusedVariables false
open Go.RowKit Go.Proofs.YtkpadjhdneiniaaGreatDoorW.PrintWords Go.Proofs.YtkpadjhdneiniaaGreatDoorW.PrintLast Go.Proofs.YtkpadjhdneiniaaGreatDoorW.PrintMore Go.Maps
open Go.Proofs.YtkpadjhdneiniaaGreatDoor.Base Go.Proofs.YtkpadjhdneiniaaGreatDoor.Map Go.Proofs.YtkpadjhdneiniaaGreatDoor.Sl Go.Proofs.YtkpadjhdneiniaaGreatDoor.Ow Go.Proofs.YtkpadjhdneiniaaGreatDoor.Se Go.Proofs.YtkpadjhdneiniaaGreatDoor.Gr Go.Proofs.YtkpadjhdneiniaaGreatDoor.Rf Go.Proofs.YtkpadjhdneiniaaGreatDoor.Tx Go.Proofs.YtkpadjhdneiniaaGreatDoor.Au


def fldG (E : List GE) (L : List (List Int)) (k : Int) : List Int := if 0 ≤ k ∧ k < L.length then fieldsG E (atG L k) else []
set_option maxHeartbeats 8000000 in
theorem atypes_any (p pg M : Nat) (F : Nat → Prop) (L : List (List Int)) (st : Int → Int → Option Int) (T : List ByteArray) (E : List GE) (x : Int) (w : World) (h : AuX w F p pg L st M) (hg : GA w pg T E) (hl : ∀ s ∈ L, s.length ≤ 1000) (hT : T.length ≤ 1000) :
    Calls Tryz.prog 33 #[.pointer (some ⟨p, 0, none⟩), .int .i64 x] w fun e w' => ∃ v S, e = .returned v ∧ RdS w' v S ∧ TypS T (atG L x) S ∧ Below w.heap.size w w' := by
  obtain ⟨A, c, ms, mi, hb, -, -⟩ := h.hdr
  have c0 : w.cell? ⟨p, 0, none⟩ = some (.pointer (some ⟨pg, 0, none⟩)) := blk_cellD hb 0 _ rfl
  have hat : (atG L x).length ≤ 1000 := by
    by_cases hx : 0 ≤ x ∧ x < L.length
    · unfold atG; rw [if_pos hx]; exact hl _ (Gr.getD_mem (by omega))
    · rw [atG_out hx]; simp
  have C1 := Aside0.mk (fun (W : World) (hb : Below w.heap.size w W) => astate_any p pg M F L st x W (h.below hb) hl)
  have C2 := Aside0.mk (fun (W : World) (hb : Below w.heap.size w W) (u : Value) (hu : RdV W u (atG L x)) => types_any pg T E u (atG L x) W (hg.below hb) hu ⟨by omega, by omega⟩)
  clear h hg hl hT hb hat
  go_enter Tryz.func33, Tryz.ntmps33
  have HBr := Below.refl w.heap.size w
  go_wp2_with fail
  go_region_held3 (fun W' => W'.cell? ⟨p, 0, none⟩ = some (.pointer (some ⟨pg, 0, none⟩)) ∧ Below w.heap.size w W') (first | (exact ⟨bel_cell HB9 c0, HB9⟩) | (refine ⟨pw_cell_below (w := w) ?_ c0, ?_⟩ <;> simp [*]) | go_keep)
    (first
      | (go_at_call 32; (with_reducible refine (C1.out _ (by simp [*])).mono ?_); rintro e w1 ⟨v1, rfl, r1, r2⟩; have HV1 := Aside0.mk r1; have HB9 := bel_trans (wb := w) (by simp [*]) r2; clear r1 r2)
      | (go_at_call 69; (with_reducible refine (C2.out _ (by simp [*]) _ HV1.out).mono ?_); rintro e w2 ⟨v2, S, rfl, r1, r2, r3⟩; have HS := Aside0.mk (And.intro r1 r2); have HB9 := bel_trans (wb := w) (by simp [*]) r3; clear r1 r2 r3)
      | fail)
  all_goals go_wp2_with fail
  all_goals go_ret
  all_goals exact ⟨_, _, rfl, HS.out.1, HS.out.2, HB9⟩
set_option maxHeartbeats 8000000 in
theorem afields_any (p pg M : Nat) (F : Nat → Prop) (L : List (List Int)) (st : Int → Int → Option Int) (T : List ByteArray) (E : List GE) (x : Int) (w : World) (h : AuX w F p pg L st M) (hg : GA w pg T E) (hl : ∀ s ∈ L, s.length ≤ 1000 ∧ ∀ y ∈ s, ok64 y) (hE : E.length ≤ 1000) (hok : ∀ x f y, (x, f, y) ∈ E → ok64 x) :
    Calls Tryz.prog 27 #[.pointer (some ⟨p, 0, none⟩), .int .i64 x] w fun e w' => ∃ v, e = .returned v ∧ OwI w' w.heap.size v (fldG E L x) ∧ Below w.heap.size w w' := by
  have HA := Aside0.mk (athere_any p pg M F L st x w h)
  obtain ⟨A, c, ms, mi, hb, hr, -⟩ := h.hdr
  by_cases hx : 0 ≤ x ∧ x < L.length
  · obtain ⟨m, rfl⟩ := Int.eq_ofNat_of_zero_le hx.1
    have hm : m < L.length := by omega
    obtain ⟨ad, ⟨xa, xn, xc⟩, rfl, e0, e1⟩ := hr m hm
    have ef : fldG E L (m : Int) = fieldsG E (L.getD m []) := by unfold fldG; rw [if_pos hx, atG_nat hm]
    rw [ef]
    have hd := decide_eq_true hx
    rw [hd] at HA
    have hs := hl (L.getD m []) (Gr.getD_mem hm)
    have C2 := Aside0.mk (fun (W : World) (hb : Below w.heap.size w W) => (fields_any pg T E (encH (xa, xn, xc)) _ W (hg.below hb) (e1.below hb) hok hs.2 hE hs.1).mono (fun e w' ⟨v, h1, h2, h3⟩ => (⟨v, h1, h2.lower hb.size, h3⟩ : ∃ v, e = Ending.returned v ∧ OwI w' w.heap.size v (fieldsG E (L.getD m [])) ∧ Below W.heap.size W w')))
    obtain ⟨s, hs⟩ : ∃ s, fieldsG E (L.getD m []) = s := ⟨_, rfl⟩
    rw [hs] at C2 ⊢
    obtain ⟨n, hn⟩ : ∃ n, L.length = n := ⟨_, rfl⟩
    rw [hn] at hb hm
    have c0 : w.cell? ⟨p, 0, none⟩ = some (.pointer (some ⟨pg, 0, none⟩)) := blk_cellD hb 0 _ rfl
    have c1 : w.cell? ⟨p, 1, none⟩ = some (.slice (some ad) n c) := blk_cellD hb 1 _ rfl
    have e0 : w.cell? (ad.add m) = some (.slice xa xn xc) := e0
    have C2 : Aside0 (∀ (W : World), Below w.heap.size w W → Calls Tryz.prog 66 #[.pointer (some ⟨pg, 0, none⟩), .slice xa xn xc] W fun e w' => ∃ v, e = .returned v ∧ OwI w' w.heap.size v s ∧ Below W.heap.size W w') := C2
    have i0 : 0 ≤ (m : Int) := by omega
    have i1 : (m : Int) < (n : Int) := by omega
    clear hd hr hb e1 h hx hl hn hm hs ef hg hok hE
    replace i0 := eq_true i0
    replace i1 := eq_true i1
    go_enter Tryz.func27, Tryz.ntmps27
    go_wp2_with fail
    refine HA.out.mono ?_
    rintro e w' ⟨rfl, rfl⟩
    have HBr := Below.refl w.heap.size w
    go_wp2_with fail
    go_region_held3 (fun W' => W'.cell? ⟨p, 0, none⟩ = some (.pointer (some ⟨pg, 0, none⟩)) ∧ W'.cell? ⟨p, 1, none⟩ = some (.slice (some ad) n c) ∧ W'.cell? (ad.add m) = some (.slice xa xn xc) ∧ Below w.heap.size w W') (first | (refine ⟨pw_cell_below (w := w) ?_ c0, pw_cell_below (w := w) ?_ c1, pw_cell_below (w := w) ?_ e0, ?_⟩ <;> simp [*]) | go_keep)
      (first
        | (go_at_call 66; (with_reducible refine (C2.out _ (by simp [*])).mono ?_); rintro e w2 ⟨v2, rfl, r1, r3⟩; have HS := Aside0.mk r1; have HB9 := bel_trans (wb := w) (by simp [*]) r3; clear r1 r3)
        | fail)
    all_goals go_wp2_with fail
    all_goals go_ret
    all_goals exact ⟨_, rfl, HS.out, HB9⟩
  · have hd := decide_eq_false hx
    have ef : fldG E L x = [] := by unfold fldG; rw [if_neg hx]
    rw [hd] at HA
    rw [ef]
    clear hd hr hb h hx hl ef hg hok hE
    go_enter Tryz.func27, Tryz.ntmps27
    go_wp2_with fail
    refine HA.out.mono ?_
    rintro e w' ⟨rfl, rfl⟩
    go_wp2_with fail
    go_ret
    exact ⟨_, rfl, OwI.nil _ _, Below.refl _ _⟩
set_option maxHeartbeats 8000000 in
theorem astep_any (p pg M : Nat) (F : Nat → Prop) (L : List (List Int)) (st : Int → Int → Option Int) (a f : Int) (w : World) (h : AuX w F p pg L st M) (ha : ok64 a) (hf : ok64 f) :
    Calls Tryz.prog 28 #[.pointer (some ⟨p, 0, none⟩), .int .i64 a, .int .i64 f] w fun e w' => e = .returned (.int .i64 ((st a f).getD (-1))) ∧ w = w' := by
  obtain ⟨A, c, ms, mi, hb, -, fs, cs, hm, hk⟩ := h.hdr
  have c2 : w.cell? ⟨p, 2, none⟩ = some (.map (some ms)) := blk_cellD hb 2 _ rfl
  have hkey := arrL_key ha hf
  have hlk := hm.look_ok lawA Tryz.underlying85 (zero3 _) hkey
  unfold arrV at hlk
  rw [hk a f ha hf] at hlk
  clear h hb hm hk hkey ha hf
  cases hs : st a f with
  | none =>
    rw [hs] at hlk
    simp only [Option.map_none, Option.getD_none, Option.isSome_none] at hlk ⊢
    clear hs
    go_enter Tryz.func28, Tryz.ntmps28
    go_wp2_with fail
    go_ret
    exact ⟨rfl, rfl⟩
  | some z =>
    rw [hs] at hlk
    simp only [Option.map_some, Option.getD_some, Option.isSome_some] at hlk ⊢
    clear hs
    go_enter Tryz.func28, Tryz.ntmps28
    go_wp2_with fail
    go_ret
    exact ⟨rfl, rfl⟩
end Go.Proofs.YtkpadjhdneiniaaGreatDoor.Am
end

/- Ah: auto.Auto, read: there, Len, State, Types, Fields, Step. -/
section
namespace Go.Proofs.YtkpadjhdneiniaaGreatDoor.Am
set_option linter.unusedVariables false
open Go.RowKit Go.Proofs.YtkpadjhdneiniaaGreatDoorW.PrintWords Go.Proofs.YtkpadjhdneiniaaGreatDoorW.PrintLast Go.Proofs.YtkpadjhdneiniaaGreatDoorW.PrintMore Go.Maps
open Go.Proofs.YtkpadjhdneiniaaGreatDoor.Base Go.Proofs.YtkpadjhdneiniaaGreatDoor.Map Go.Proofs.YtkpadjhdneiniaaGreatDoor.Sl Go.Proofs.YtkpadjhdneiniaaGreatDoor.Ow Go.Proofs.YtkpadjhdneiniaaGreatDoor.Se Go.Proofs.YtkpadjhdneiniaaGreatDoor.Gr Go.Proofs.YtkpadjhdneiniaaGreatDoor.Rf Go.Proofs.YtkpadjhdneiniaaGreatDoor.Tx Go.Proofs.YtkpadjhdneiniaaGreatDoor.Au


/-- where a word leads -/
def runG (st : Int → Int → Option Int) (word : List Int) : Int := word.foldl (fun i f => (st i f).getD (-1)) 0
theorem runG_snoc (st : Int → Int → Option Int) (word : List Int) (f : Int) : runG st (word ++ [f]) = (st (runG st word) f).getD (-1) := by unfold runG; rw [List.foldl_append]; rfl
theorem runG_ok {st : Int → Int → Option Int} (h : ∀ a f z, st a f = some z → 0 ≤ z ∧ z < 1000000) : ∀ (l : List Int) (a : Int), -1 ≤ a ∧ a < 1000000 → -1 ≤ l.foldl (fun i f => (st i f).getD (-1)) a ∧ l.foldl (fun i f => (st i f).getD (-1)) a < 1000000
  | [], a, ha => ha
  | f :: l, a, ha => runG_ok h l _ (by
    show -1 ≤ (st a f).getD (-1) ∧ (st a f).getD (-1) < 1000000
    cases hs : st a f with
    | none => rw [Option.getD_none]; omega
    | some z => have := h a f z hs; rw [Option.getD_some]; omega)
theorem runG_small {st : Int → Int → Option Int} (h : ∀ a f z, st a f = some z → 0 ≤ z ∧ z < 1000000) (l : List Int) : ok64 (runG st l) := by
  have := runG_ok h l 0 (by omega)
  exact ok64_of (by unfold runG; omega) (by unfold runG; omega)
theorem take_snoc {l : List Int} {i : Nat} (hi : i < l.length) : l.take (i + 1) = l.take i ++ [l.getD i 0] := by
  rw [List.take_succ_eq_append_getElem hi]; simp [List.getElem?_eq_getElem hi]
set_option maxHeartbeats 8000000 in
set_option maxRecDepth 100000 in
theorem arun_any (p pg M : Nat) (F : Nat → Prop) (L : List (List Int)) (st : Int → Int → Option Int) (T : List ByteArray) (E : List GE) (u : Value) (l : List Int) (w : World) (h : AuX w F p pg L st M) (hg : GA w pg T E) (hl : ∀ s ∈ L, s.length ≤ 1000) (hT : T.length ≤ 1000)
    (hst : ∀ a f z, st a f = some z → 0 ≤ z ∧ z < 1000000) (hu : RdV w u l) (hok : ∀ x ∈ l, ok64 x) (hll : l.length ≤ 1000000) :
    Calls Tryz.prog 23 #[.pointer (some ⟨p, 0, none⟩), u] w fun e w' => ∃ v S, e = .returned v ∧ RdS w' v S ∧ TypS T (atG L (runG st l)) S ∧ Below w.heap.size w w' := by
  obtain ⟨A, c, rfl, hc, hr⟩ := hu
  have HR := Aside0.mk hr
  have H := Aside0.mk (And.intro h (And.intro hg (And.intro hl (And.intro hT (And.intro hst hok)))))
  have Hll := Aside0.mk hll
  clear h hg hl hT hst hok hr hc hll
  go_enter Tryz.func23, Tryz.ntmps23
  go_wp2_with fail
  go_loopw [5, 7, 10] (fun Z _ I wr => ∃ i : Nat, I = .int .i64 (i : Int) ∧ i ≤ l.length ∧ Z = .int .i64 (runG st (l.take i)) ∧ Aside0 (Below w.heap.size w wr)) (fun _ _ I _ => l.length - (intOf I).toNat)
  case atStart => exact ⟨0, rfl, Nat.zero_le _, rfl, ⟨Below.refl _ _⟩⟩
  case round =>
    obtain ⟨i, rfl, hi, rfl, HB⟩ := hrel
    by_cases hin : i < l.length
    · have hnb : decide ((i : Int) < (l.length : Int)) = true := decide_eq_true (by omega)
      have hnc : decide (i < l.length) = true := decide_eq_true hin
      obtain ⟨ad, rfl, hx⟩ := (HR.out.below HB.out).at_ (i : Int) (by omega) (by omega)
      rw [Int.toNat_natCast] at hx
      have hx2 : rd l (i : Int) = l.getD i 0 := by simp [rd]
      have htk := take_snoc hin
      have hmem : l.getD i 0 ∈ l := getD_mem hin
      obtain ⟨x, hxx⟩ : ∃ x, l.getD i 0 = x := ⟨_, rfl⟩
      rw [hx2, hxx] at hx
      rw [hxx] at htk hmem
      have hrn := runG_snoc st (l.take i) x
      rw [← htk] at hrn
      have hsm := runG_small H.out.2.2.2.2.1 (l.take i)
      obtain ⟨a, ha⟩ : ∃ a, runG st (l.take i) = a := ⟨_, rfl⟩
      rw [ha] at hrn hsm ⊢
      have HS := Aside0.mk (astep_any p pg M F L st a x wr (H.out.1.below HB.out) hsm (H.out.2.2.2.2.2 x hmem))
      have Hrn := Aside0.mk hrn
      have i0 : 0 ≤ (i : Int) := by omega
      have i1 : (i : Int) < (l.length : Int) := by omega
      have i3 : (i : Int) < 1000000 := by have := Hll.out; omega
      have Hin := Aside0.mk hin
      clear hin hi hx2 hxx htk hmem ha hrn hsm
      replace i0 := eq_true i0
      replace i1 := eq_true i1
      go_wp2_with fail
      refine HS.out.mono ?_
      rintro e w2 ⟨rfl, rfl⟩
      rw [← Hrn.out]
      go_wp2_with fail
      go_roundw
      case rel => exact ⟨i + 1, by go_num, Hin.out, rfl, HB⟩
      case measure => have := Hin.out; simp [intOf]; omega
    · have hnb : decide ((i : Int) < (l.length : Int)) = false := decide_eq_false (by omega)
      have hnc : decide (i < l.length) = false := decide_eq_false hin
      obtain rfl : i = l.length := by omega
      rw [List.take_length]
      have HX := Aside0.mk (atypes_any p pg M F L st T E (runG st l) wr (H.out.1.below HB.out) (H.out.2.1.below HB.out) H.out.2.2.1 H.out.2.2.2.1)
      clear hin hi
      go_wp2_with fail
      refine HX.out.mono ?_
      rintro e w2 ⟨v, S, rfl, r1, r2, r3⟩
      go_wp2_with fail
      go_ret
      exact ⟨_, _, rfl, r1, r2, bel_trans HB.out r3⟩
/-- each of these has one type -/
def SingleG (T : List ByteArray) (L : List (List Int)) : Prop := ∀ s ∈ L, ∀ S, TypS T s S → S.length = 1
set_option maxHeartbeats 8000000 in
set_option maxRecDepth 100000 in
theorem asingle_any (p pg M : Nat) (F : Nat → Prop) (L : List (List Int)) (st : Int → Int → Option Int) (T : List ByteArray) (E : List GE) (w : World) (h : AuX w F p pg L st M) (hg : GA w pg T E) (hl : ∀ s ∈ L, s.length ≤ 1000) (hT : T.length ≤ 1000) (hLl : L.length ≤ 1000000) (B : Bool) (hB : B = true ↔ SingleG T L) :
    Calls Tryz.prog 30 #[.pointer (some ⟨p, 0, none⟩)] w fun e w' => e = .returned (.bool B) ∧ Below w.heap.size w w' := by
  obtain ⟨A, c, ms, mi, hb, -, -⟩ := h.hdr
  have c1 : w.cell? ⟨p, 1, none⟩ = some (.slice A L.length c) := blk_cellD hb 1 _ rfl
  have H := Aside0.mk (And.intro h (And.intro hg (And.intro hl (And.intro hT (And.intro hLl hB)))))
  clear h hg hl hT hB hb hLl
  go_enter Tryz.func30, Tryz.ntmps30
  go_wp2_with fail
  go_loopw [3, 9] (fun _ I wr => ∃ i : Nat, I = .int .i64 (i : Int) ∧ i ≤ L.length ∧ Aside0 (SingleG T (L.take i)) ∧ Aside0 (Below w.heap.size w wr)) (fun _ I _ => L.length - (intOf I).toNat)
  case atStart => exact ⟨0, rfl, Nat.zero_le _, ⟨by intro s hs; simp at hs⟩, ⟨Below.refl _ _⟩⟩
  case round =>
    obtain ⟨i, rfl, hi, HS, HB⟩ := hrel
    by_cases hin : i < L.length
    · have hnb : decide ((i : Int) < (L.length : Int)) = true := decide_eq_true (by omega)
      have hnc : decide (i < L.length) = true := decide_eq_true hin
      have HX := Aside0.mk (atypes_any p pg M F L st T E (i : Int) wr (H.out.1.below HB.out) (H.out.2.1.below HB.out) H.out.2.2.1 H.out.2.2.2.1)
      have i3 : (i : Int) < 1000000 := by have := H.out.2.2.2.2.1; omega
      have hat := atG_nat hin
      have Hin := Aside0.mk (And.intro hin hat)
      clear hin hi hat c1
      go_wp2_with fail
      refine HX.out.mono ?_
      rintro e w2 ⟨v, S, rfl, r1, r2, r3⟩
      have Hr2 := Aside0.mk r2
      have HB2 := Aside0.mk (bel_trans HB.out r3)
      obtain ⟨A3, c3, rfl, hc3, hr3⟩ := r1
      by_cases h1 : S.length = 1
      · rw [h1]
        have H1 := Aside0.mk h1
        clear r2 r3 hc3 hr3 h1
        go_wp2_with fail
        go_roundw
        case rel =>
          refine ⟨i + 1, by go_num, Hin.out.1, ⟨?_⟩, HB2⟩
          intro s hs S' hS'
          rw [List.take_succ_eq_append_getElem Hin.out.1] at hs
          rcases List.mem_append.1 hs with hs | hs
          · exact HS.out s hs S' hS'
          · rw [List.mem_singleton] at hs
            subst hs
            have h2 := Hr2.out
            rw [Hin.out.2, List.getD_eq_getElem?_getD, List.getElem?_eq_getElem Hin.out.1] at h2
            rw [← TypS.ext h2 hS']; exact H1.out
        case measure => have := Hin.out.1; simp [intOf]; omega
      · have q1 : decide ((S.length : Int) = 1) = false := decide_eq_false (by omega)
        have q2 : ((S.length : Int) != 1) = true := by simpa using (show (S.length : Int) ≠ 1 by omega)
        have hBf : B = false := by
          cases B with
          | false => rfl
          | true =>
            refine absurd (H.out.2.2.2.2.2.1 rfl (L.getD i []) (getD_mem Hin.out.1) S ?_) h1
            have h2 := Hr2.out
            rw [Hin.out.2] at h2; exact h2
        have HBf := Aside0.mk hBf
        clear r2 r3 hc3 hr3 h1 hBf
        go_wp2_with fail
        go_ret
        rw [HBf.out]
        exact ⟨rfl, HB2.out⟩
    · have hnb : decide ((i : Int) < (L.length : Int)) = false := decide_eq_false (by omega)
      have hnc : decide (i < L.length) = false := decide_eq_false hin
      obtain rfl : i = L.length := by omega
      have hBt : B = true := H.out.2.2.2.2.2.2 (by have := HS.out; rw [List.take_length] at this; exact this)
      have HBt := Aside0.mk hBt
      clear hin hi hBt
      go_wp2_with fail
      go_ret
      rw [HBt.out]
      exact ⟨rfl, HB.out⟩
end Go.Proofs.YtkpadjhdneiniaaGreatDoor.Am
end

/- Ai: auto.Auto, read: there, Len, State, Types, Fields, Step. -/
section
namespace Go.Proofs.YtkpadjhdneiniaaGreatDoor.Am
set_option linter.unusedVariables false
open Go.RowKit Go.Proofs.YtkpadjhdneiniaaGreatDoorW.PrintWords Go.Proofs.YtkpadjhdneiniaaGreatDoorW.PrintLast Go.Proofs.YtkpadjhdneiniaaGreatDoorW.PrintMore Go.Maps
open Go.Proofs.YtkpadjhdneiniaaGreatDoor.Base Go.Proofs.YtkpadjhdneiniaaGreatDoor.Map Go.Proofs.YtkpadjhdneiniaaGreatDoor.Sl Go.Proofs.YtkpadjhdneiniaaGreatDoor.Ow Go.Proofs.YtkpadjhdneiniaaGreatDoor.Se Go.Proofs.YtkpadjhdneiniaaGreatDoor.Gr Go.Proofs.YtkpadjhdneiniaaGreatDoor.Rf Go.Proofs.YtkpadjhdneiniaaGreatDoor.Tx Go.Proofs.YtkpadjhdneiniaaGreatDoor.Au


/-! what Build's maps hold, while it is built -/
def putSt (st : Int → Int → Option Int) (a f q : Int) : Int → Int → Option Int := fun x g => if x = a ∧ g = f then some q else st x g
/-- where a state's field leads: a number in S -/
def ledTo (E : List GE) (S : List (List Int)) (s : List Int) (f : Int) : Int := ((S.idxOf (nextG E f s) : Nat) : Int)
open Classical in
noncomputable def stP (E : List GE) (S : List (List Int)) (i j : Nat) (a f : Int) : Option Int :=
  if 0 ≤ a ∧ ((a < (i : Int) ∧ f ∈ fieldsG E (S.getD a.toNat [])) ∨ (a = (i : Int) ∧ f ∈ (fieldsG E (S.getD i [])).take j)) then some (ledTo E S (S.getD a.toNat []) f) else none
/-- each state's arrows -/
def stepG (E : List GE) (S : List (List Int)) (a f : Int) : Option Int :=
  if 0 ≤ a ∧ a < (S.length : Int) ∧ f ∈ fieldsG E (S.getD a.toNat []) then some (ledTo E S (S.getD a.toNat []) f) else none
theorem stP_zero (E : List GE) (S : List (List Int)) : stP E S 0 0 = fun _ _ => none := by
  funext a f
  refine if_neg ?_
  rintro ⟨h0, ⟨h1, -⟩ | ⟨-, h1⟩⟩
  · omega
  · simp at h1
theorem stP_put {E : List GE} {S : List (List Int)} {i j : Nat} {fl : List Int} (hfl : fieldsG E (S.getD i []) = fl) (hj : j < fl.length) {f q : Int} (hf : fl.getD j 0 = f) (hq : ledTo E S (S.getD i []) f = q) : stP E S i (j + 1) = putSt (stP E S i j) (i : Int) f q := by
  subst hfl
  have htk := take_snoc hj
  rw [hf] at htk
  funext a g
  unfold putSt stP
  rw [htk]
  by_cases h : a = (i : Int) ∧ g = f
  · obtain ⟨rfl, rfl⟩ := h
    rw [if_pos ⟨by omega, .inr ⟨rfl, by simp⟩⟩, if_pos ⟨rfl, rfl⟩, Int.toNat_natCast, hq]
  · rw [if_neg h]
    have e : (0 ≤ a ∧ ((a < (i : Int) ∧ g ∈ fieldsG E (S.getD a.toNat [])) ∨ (a = (i : Int) ∧ g ∈ (fieldsG E (S.getD i [])).take j ++ [f]))) ↔ (0 ≤ a ∧ ((a < (i : Int) ∧ g ∈ fieldsG E (S.getD a.toNat [])) ∨ (a = (i : Int) ∧ g ∈ (fieldsG E (S.getD i [])).take j))) := by
      rw [List.mem_append, List.mem_singleton]
      constructor
      · rintro ⟨h0, h1 | ⟨h1, h2 | h2⟩⟩
        · exact ⟨h0, .inl h1⟩
        · exact ⟨h0, .inr ⟨h1, h2⟩⟩
        · exact absurd ⟨h1, h2⟩ h
      · rintro ⟨h0, h1 | ⟨h1, h2⟩⟩
        · exact ⟨h0, .inl h1⟩
        · exact ⟨h0, .inr ⟨h1, .inl h2⟩⟩
    by_cases h2 : 0 ≤ a ∧ ((a < (i : Int) ∧ g ∈ fieldsG E (S.getD a.toNat [])) ∨ (a = (i : Int) ∧ g ∈ (fieldsG E (S.getD i [])).take j))
    · rw [if_pos h2, if_pos (e.2 h2)]
    · rw [if_neg h2, if_neg (fun h => h2 (e.1 h))]
theorem stP_next {E : List GE} {S : List (List Int)} {i : Nat} {fl : List Int} (hfl : fieldsG E (S.getD i []) = fl) : stP E S i fl.length = stP E S (i + 1) 0 := by
  subst hfl
  funext a g
  unfold stP
  rw [List.take_length]
  have e : (0 ≤ a ∧ ((a < (i : Int) ∧ g ∈ fieldsG E (S.getD a.toNat [])) ∨ (a = (i : Int) ∧ g ∈ fieldsG E (S.getD i [])))) ↔ (0 ≤ a ∧ ((a < ((i + 1 : Nat) : Int) ∧ g ∈ fieldsG E (S.getD a.toNat [])) ∨ (a = ((i + 1 : Nat) : Int) ∧ g ∈ (fieldsG E (S.getD (i + 1) [])).take 0))) := by
    constructor
    · rintro ⟨h0, ⟨h1, h2⟩ | ⟨rfl, h2⟩⟩
      · exact ⟨h0, .inl ⟨by omega, h2⟩⟩
      · exact ⟨h0, .inl ⟨by omega, by rw [Int.toNat_natCast]; exact h2⟩⟩
    · rintro ⟨h0, ⟨h1, h2⟩ | ⟨h1, h2⟩⟩
      · by_cases e : a = (i : Int)
        · subst e; rw [Int.toNat_natCast] at h2; exact ⟨h0, .inr ⟨rfl, h2⟩⟩
        · exact ⟨h0, .inl ⟨by omega, h2⟩⟩
      · simp at h2
  by_cases h2 : 0 ≤ a ∧ ((a < (i : Int) ∧ g ∈ fieldsG E (S.getD a.toNat [])) ∨ (a = (i : Int) ∧ g ∈ fieldsG E (S.getD i [])))
  · rw [if_pos h2, if_pos (e.1 h2)]
  · rw [if_neg h2, if_neg (fun h => h2 (e.2 h))]
theorem stP_end (E : List GE) (S : List (List Int)) : stP E S S.length 0 = stepG E S := by
  funext a g
  unfold stP stepG
  by_cases h : 0 ≤ a ∧ a < (S.length : Int) ∧ g ∈ fieldsG E (S.getD a.toNat [])
  · rw [if_pos h, if_pos ⟨h.1, .inl h.2⟩]
  · rw [if_neg h, if_neg]
    rintro ⟨h0, h1 | ⟨-, h1⟩⟩
    · exact h ⟨h0, h1⟩
    · simp at h1
theorem idx_pre {L S : List (List Int)} (h : L <+: S) {s : List Int} (hs : s ∈ L) : L.idxOf s = S.idxOf s := by
  obtain ⟨c, rfl⟩ := h
  rw [List.idxOf_append, if_pos hs]
theorem stepG_ok {E : List GE} {S : List (List Int)} (h : S.length ≤ 1000) (a f z : Int) (hz : stepG E S a f = some z) : 0 ≤ z ∧ z < 1000000 := by
  unfold stepG at hz
  split at hz
  · have e := Option.some.inj hz
    have := List.idxOf_le_length (l := S) (a := nextG E f (S.getD a.toNat []))
    unfold ledTo at e
    omega
  · cases hz
/-! the walk's parts -/
section
variable {F : Nat → Prop} {w w2 : World} {p pg M : Nat} {L : List (List Int)} {st : Int → Int → Option Int}
theorem AuX.arrow (h : AuX w F p pg L st M) : ∃ ms fs cs, w.cell? ⟨p, 2, none⟩ = some (.map (some ms)) ∧ MapP Tryz.prog 92 w ms fs cs ∧ cs ≤ M ∧
    ∀ (w2 : World) (a f q : Int), ok64 a → ok64 f → MapP Tryz.prog 92 w2 ms (upd fs (arrL a f) (some (.int .i64 q))) (if (fs (arrL a f)).isSome then cs else cs + 1) → Chg (fun k => k = ms) w w2 → AuX w2 F p pg L (putSt st a f q) (M + 1) ∧ Chg F w w2 := by
  obtain ⟨vS, hs, ms, mi, fs, fi, cs, ci, h1, h2, h3, h4, h5, h6, h7, h8, h9, h10, h11⟩ := h
  obtain ⟨es, ck, hms⟩ := h5.at_block
  have np : p ≠ ms := fun e => by rw [e, hms] at h1; cases h1
  have ow := Kd.own_of_R h2
  have nS : vS.ownBlock ≠ some ms := fun e => by
    obtain ⟨cells, hc⟩ := own_typed ow ms e
    rw [hms] at hc; cases hc
  refine ⟨ms, fs, cs, blk_cellD h1 2 _ rfl, h5, h10, fun w2 a f q ha hf hM hC => ?_⟩
  have hCF : Chg F w w2 := hC.mono (fun k _ e => e ▸ h7.2.1)
  refine ⟨⟨vS, hs, ms, mi, _, fi, _, ci, hC.blk h1 np, ?_, h3, fun j hj => (h4 j hj).next (chg_fp hCF) (fun k hk => .inl hk), hM, h6.chg hC (fun e => h7.2.2.2 e.symm), h7, fun x g hx hg => ?_, h9, by split <;> omega, by omega⟩, hCF⟩
  · have hR2 : Kd.R kH 26 w 0 (fun k => F k ∧ k ≠ ms) vS hs := ⟨fun k hk => ⟨h2.1 k hk, fun e => nS (e ▸ hk)⟩, h2.2⟩
    exact Kd.R_mono (Kd.R_step hR2 (fun k hk hlt => hC.block k hlt hk.2)) (fun k hk => hk.1)
  · unfold putSt
    by_cases e : x = a ∧ g = f
    · obtain ⟨rfl, rfl⟩ := e
      rw [upd_same, if_pos ⟨rfl, rfl⟩]; rfl
    · rw [if_neg e, upd_other _ (fun h => e (arrL_inj hx hg ha hf h))]; exact h8 x g hx hg
/-- an arrow is noted -/
theorem AuX.store (h : AuX w F p pg L st M) {ms : Nat} (hc : w.cell? ⟨p, 2, none⟩ = some (.map (some ms))) (a f q : Int) (ha : ok64 a) (hf : ok64 f) (hM : M ≤ 1000000) :
    ∃ w2, (Instr.mapUpdate 85 (.map (some ms)) (.agg #[.int .i64 a, .int .i64 f]) (.int .i64 q)).run Tryz.prog w = .ok () w2 ∧ w2.cell? ⟨p, 2, none⟩ = some (.map (some ms)) ∧ AuX w2 F p pg L (putSt st a f q) (M + 1) ∧ Chg F w w2 := by
  obtain ⟨ms', fs, cs, h1, h2, h3, h4⟩ := h.arrow
  obtain rfl : ms' = ms := by rw [hc] at h1; cases h1; rfl
  obtain ⟨w2, hrun, r1, r2⟩ := h2.store (val := .int .i64 q) lawA Tryz.underlying85 (by unfold maxLen; omega) (arrL_key ha hf)
  unfold arrV at hrun
  have hC : Chg (fun k => k = ms') w w2 := Chg.of_grown r2 (fun k hk => by cases hk; rfl)
  obtain ⟨es, ck, hms⟩ := h2.at_block
  obtain ⟨vS, hs, m2, mi, fs2, fi, cs2, ci, g1, g⟩ := h.out
  have np : p ≠ ms' := fun e => by rw [e, hms] at g1; cases g1
  have g2 := hC.blk g1 np
  have e : w2.cell? ⟨p, 2, none⟩ = some (.map (some m2)) := blk_cellD g2 2 _ rfl
  have e1 : w.cell? ⟨p, 2, none⟩ = some (.map (some m2)) := blk_cellD g1 2 _ rfl
  rw [e1] at hc
  rw [hc] at e
  exact ⟨w2, hrun, e, h4 w2 a f q ha hf r1 hC⟩
end
/-- an automaton without states -/
theorem au_start (w : World) (pg : Nat) :
    AuX (((w.alloc (.map #[] 0)).alloc (.map #[] 0)).alloc (.cells #[.pointer (some ⟨pg, 0, none⟩), .slice none 0 0, .map (some w.heap.size), .map (some (w.heap.size + 1))] 88)) (fun k => w.heap.size ≤ k ∧ k < w.heap.size + 3) (w.heap.size + 2) pg [] (fun _ _ => none) 0 ∧
    Below w.heap.size w (((w.alloc (.map #[] 0)).alloc (.map #[] 0)).alloc (.cells #[.pointer (some ⟨pg, 0, none⟩), .slice none 0 0, .map (some w.heap.size), .map (some (w.heap.size + 1))] 88)) ∧
    (((w.alloc (.map #[] 0)).alloc (.map #[] 0)).alloc (.cells #[.pointer (some ⟨pg, 0, none⟩), .slice none 0 0, .map (some w.heap.size), .map (some (w.heap.size + 1))] 88)).heap.size = w.heap.size + 3 := by
  obtain ⟨W1, e1⟩ : ∃ x, w.alloc (.map #[] 0) = x := ⟨_, rfl⟩
  obtain ⟨W2, e2⟩ : ∃ x, W1.alloc (.map #[] 0) = x := ⟨_, rfl⟩
  have z1 : W1.heap.size = w.heap.size + 1 := by rw [← e1]; simp
  have z2 : W2.heap.size = w.heap.size + 2 := by rw [← e2]; simp [z1]
  have b1 : Below w.heap.size w W1 := by rw [← e1]; exact below_alloc (Below.refl _ _) _
  have b2 : Below W1.heap.size W1 W2 := by rw [← e2]; exact below_alloc (Below.refl _ _) _
  have b3 := below_alloc (Below.refl W2.heap.size W2) (.cells #[.pointer (some ⟨pg, 0, none⟩), .slice none 0 0, .map (some w.heap.size), .map (some (w.heap.size + 1))] 88)
  rw [e1, e2]
  have z3 : (W2.alloc (.cells #[.pointer (some ⟨pg, 0, none⟩), .slice none 0 0, .map (some w.heap.size), .map (some (w.heap.size + 1))] 88)).heap.size = w.heap.size + 3 := by simp [z2]
  have m1 := MapP.made w Tryz.prog 92
  rw [e1] at m1
  have m2 := MapP.made W1 Tryz.prog 9
  rw [e2, z1] at m2
  refine ⟨⟨.slice none 0 0, [], w.heap.size, w.heap.size + 1, fun _ => none, fun _ => none, 0, 0, ?_, Kd.R_nil _ _ _ _ _, rfl, fun j hj => absurd hj (Nat.not_lt_zero _), (m1.below b2).below b3, m2.below b3, ⟨⟨by omega, by omega⟩, ⟨by omega, by omega⟩, ⟨by omega, by omega⟩, by omega⟩, fun a f _ _ => rfl, fun l => ?_, Nat.le_refl _, Nat.le_refl _⟩, bel_trans b1 (bel_trans b2 b3), z3⟩
  · have := heap_alloc_new W2 (.cells #[.pointer (some ⟨pg, 0, none⟩), .slice none 0 0, .map (some w.heap.size), .map (some (w.heap.size + 1))] 88)
    rw [z2] at this; exact this
  · rw [idx_none (by simp)]; rfl
end Go.Proofs.YtkpadjhdneiniaaGreatDoor.Am
end

/- Aj: auto.Auto, read: there, Len, State, Types, Fields, Step. -/
section
namespace Go.Proofs.YtkpadjhdneiniaaGreatDoor.Am
set_option linter.unusedVariables false
open Go.RowKit Go.Proofs.YtkpadjhdneiniaaGreatDoorW.PrintWords Go.Proofs.YtkpadjhdneiniaaGreatDoorW.PrintLast Go.Proofs.YtkpadjhdneiniaaGreatDoorW.PrintMore Go.Maps
open Go.Proofs.YtkpadjhdneiniaaGreatDoor.Base Go.Proofs.YtkpadjhdneiniaaGreatDoor.Map Go.Proofs.YtkpadjhdneiniaaGreatDoor.Sl Go.Proofs.YtkpadjhdneiniaaGreatDoor.Ow Go.Proofs.YtkpadjhdneiniaaGreatDoor.Se Go.Proofs.YtkpadjhdneiniaaGreatDoor.Gr Go.Proofs.YtkpadjhdneiniaaGreatDoor.Rf Go.Proofs.YtkpadjhdneiniaaGreatDoor.Tx Go.Proofs.YtkpadjhdneiniaaGreatDoor.Au


theorem lit_stay {F : Nat → Prop} {w : World} {o : Int} (hF : ∀ k, F k → k < w.heap.size) : Stay F (w.alloc (.cells #[.int .i64 o] 3)) (.slice (some ⟨w.heap.size, 0, none⟩) 1 1) [o] := fun W hC => by
  have h := hC.blk (heap_alloc_new w (.cells #[.int .i64 o] 3)) (fun h => absurd (hF _ h) (Nat.lt_irrefl _))
  exact rdV_lit (l := [o]) h rfl (by simp)
theorem sm_ok {n : Nat} (hn : n ≤ 8) {s : List Int} (h : Sm n s) : s.length ≤ 8 ∧ ∀ x ∈ s, ok64 x := ⟨Nat.le_trans h.len hn, fun x hx => by have := h.2 x hx; exact ok64_of (by omega) (by omega)⟩
theorem fields_ok {E : List GE} (h : ∀ a f z, (a, f, z) ∈ E → ok64 f) (s : List Int) : ∀ f ∈ fieldsG E s, ok64 f := fun f hf => by
  obtain ⟨a, b, h1, _⟩ := mem_fieldsG.1 hf
  exact h _ _ _ h1
theorem right_ok {n : Nat} (hn : n ≤ 8) {E : List GE} (h : RightG n E) : ∀ x f y, (x, f, y) ∈ E → ok64 x := fun x f y he => by
  have := h _ he
  exact ok64_of (by omega) (by omega)
/-- what the state's objects come as -/
def NSaid (wr : World) (P : World → Value → Prop) (e : Ending) (w' : World) : Prop := ∃ A5 n5 c5, e = .returned (.slice A5 n5 c5) ∧ Below wr.heap.size wr w' ∧ Aside0 (P w' (.slice A5 n5 c5))
/-- the state's number, and that it can be noted -/
def CSaid (p ms : Nat) (i f q : Int) (P : World → Prop) (e : Ending) (w' : World) : Prop := e = .returned (.int .i64 q) ∧ w'.cell? ⟨p, 2, none⟩ = some (.map (some ms)) ∧
  ∃ w7, (Instr.mapUpdate 85 (.map (some ms)) (.agg #[.int .i64 i, .int .i64 f]) (.int .i64 q)).run Tryz.prog w' = .ok () w7 ∧ w7.cell? ⟨p, 2, none⟩ = some (.map (some ms)) ∧ Aside0 (P w7)
/-- what Build leaves -/
def BuildSaid (w : World) (pg : Nat) (E : List GE) (S : List (List Int)) (most : Int) (e : Ending) (w' : World) : Prop := Below w.heap.size w w' ∧
  (((S.length : Int) ≤ most ∧ ∃ p F, e = .returned (.tuple #[.pointer (some ⟨p, 0, none⟩), .int .i64 0]) ∧ AuX w' F p pg S (stepG E S) 100000) ∨
   (¬ (S.length : Int) ≤ most ∧ e = .returned (.tuple #[.pointer none, .int .i64 12])))
/-- the same, and that nothing of it is old -/
def BuildSaid2 (w : World) (pg : Nat) (E : List GE) (S : List (List Int)) (most : Int) (e : Ending) (w' : World) : Prop := Below w.heap.size w w' ∧
  (((S.length : Int) ≤ most ∧ ∃ p F, e = .returned (.tuple #[.pointer (some ⟨p, 0, none⟩), .int .i64 0]) ∧ AuX w' F p pg S (stepG E S) 100000 ∧ w.heap.size + 2 ≤ p ∧ ∀ k, F k → w.heap.size ≤ k) ∨
   (¬ (S.length : Int) ≤ most ∧ e = .returned (.tuple #[.pointer none, .int .i64 12])))
/-- what changes otherwise -/
theorem AuX.chg {G F : Nat → Prop} {w w1 : World} {p pg M : Nat} {L : List (List Int)} {st : Int → Int → Option Int} (h : AuX w F p pg L st M) (hC : Chg G w w1) (hF : ∀ k, F k → ¬ G k) (hG : ∀ k, G k → k + 2 < p) : AuX w1 F p pg L st M := by
  obtain ⟨vS, hs, ms, mi, fs, fi, cs, ci, h1, h2, h3, h4, h5, h6, h7, h8⟩ := h
  exact ⟨vS, hs, ms, mi, fs, fi, cs, ci, hC.blk h1 (hF _ h7.1), Kd.R_step h2 (fun k hk hlt => hC.block k hlt (hF k hk)), h3, fun j hj => (h4 j hj).next (hC.mono (fun k _ hk => .inr (hG k hk))) (fun k hk => .inl hk), h5.chg hC (hF _ h7.2.1), h6.chg hC (hF _ h7.2.2.1), h7, h8⟩
set_option maxHeartbeats 16000000 in
set_option maxRecDepth 100000 in
theorem build2_any (pg : Nat) (T : List ByteArray) (E : List GE) (o most : Int) (w : World) (hg : GA w pg T E) (hT : TZ w) (hP : P10 w) (hR : RightG T.length E) (hn : T.length ≤ 8) (hE : E.length ≤ 60) (hok : ∀ a f z, (a, f, z) ∈ E → ok64 f) (h0 : 0 ≤ o) (h1 : o < T.length) (hm : ok64 most) :
    Calls Tryz.prog 21 #[.pointer (some ⟨pg, 0, none⟩), .int .i64 o, .int .i64 most] w (BuildSaid2 w pg E (statesG E T.length o) most) := by
  obtain ⟨S, hS⟩ : ∃ S, statesG E T.length o = S := ⟨_, rfl⟩
  rw [hS]
  have hLE := len_any pg T E w hg
  have H := Aside0.mk (And.intro hg (And.intro hT hP))
  have HE := Aside0.mk (And.intro hR (And.intro hn (And.intro hE hok)))
  have HS := Aside0.mk hS
  obtain ⟨n, hnn⟩ : ∃ n, T.length = n := ⟨_, rfl⟩
  rw [hnn] at HE HS hLE h1
  have HLE := Aside0.mk hLE
  have Ho := Aside0.mk (And.intro h0 h1)
  have hmm := @run_makeMap Tryz.prog
  clear hg hT hP hR hn hE hok hS hnn hLE
  go_enter Tryz.func21, Tryz.ntmps21
  go_wp2_with fail
  refine HLE.out.mono ?_
  rintro e w' ⟨rfl, rfl⟩
  go_wp2_with fail
  obtain ⟨W0, hW0⟩ : ∃ x, ((w.alloc (.map #[] 0)).alloc (.map #[] 0)).alloc (.cells #[.pointer (some ⟨pg, 0, none⟩), .slice none 0 0, .map (some w.heap.size), .map (some (w.heap.size + 1))] 88) = x := ⟨_, rfl⟩
  have hs := au_start w pg
  rw [hW0] at hs ⊢
  obtain ⟨a1, b1, z1⟩ := hs
  obtain ⟨p, hp⟩ : ∃ p, w.heap.size + 1 + 1 = p := ⟨_, rfl⟩
  have z2 : w.heap.size + 1 + 1 + 1 = W0.heap.size := z1.symm
  have a1 : AuX W0 (fun k => w.heap.size ≤ k ∧ k < w.heap.size + 3) p pg [] (fun _ _ => none) 0 := by rw [← hp]; exact a1
  rw [z2, hp]
  have hst := lit_stay (F := FP (fun k => w.heap.size ≤ k ∧ k < w.heap.size + 3) p) (w := W0) (o := o) (fun k hk => by rw [z1]; exact hk.elim (fun h => h.2) (fun h => by omega))
  have Hpp := Aside0.mk (show w.heap.size + 2 ≤ p by omega)
  have b2 : Below W0.heap.size W0 (W0.alloc (.cells #[.int .i64 o] 3)) := below_alloc (Below.refl _ _) _
  obtain ⟨g, hgz⟩ : ∃ g, W0.heap.size = g := ⟨_, rfl⟩
  rw [hgz] at hst ⊢
  have hz3 : w.heap.size + 3 ≤ (W0.alloc (.cells #[.int .i64 o] 3)).heap.size := by rw [← z1]; exact b2.size
  generalize W0.alloc (.cells #[.int .i64 o] 3) = W1 at hst b2 hz3 ⊢
  have hSt := Aside0.mk (state_any p pg 0 (fun k => w.heap.size ≤ k ∧ k < w.heap.size + 3) [] (fun _ _ => none) _ [o] W1 (a1.below b2) hst (H.out.2.2.below (bel_trans b1 b2)) (fun x hx => by
    rw [List.mem_singleton] at hx; subst hx
    have := Ho.out; have := HE.out.2.1
    exact ok64_of (by omega) (by omega)) (by simp) (by simp) (by omega))
  have HB1 := Aside0.mk (And.intro (bel_trans b1 b2) hz3)
  clear hst a1 b1 b2 z1 z2 hp hgz hz3 hW0
  refine hSt.out.mono ?_
  rintro e w2 ⟨rfl, r1, r2, -⟩
  have HA2 := Aside0.mk (show AuX w2 (ext (fun k => w.heap.size ≤ k ∧ k < w.heap.size + 3) W1 w2) p pg (stT E o 0) (stP E S 0 0) 1 by rw [stP_zero]; exact r1)
  have HF2 := Aside0.mk (fun (k : Nat) (hk : ext (fun k => w.heap.size ≤ k ∧ k < w.heap.size + 3) W1 w2 k) => (show w.heap.size ≤ k ∧ k < w2.heap.size from hk.elim (fun h => ⟨h.1, by have := HB1.out.2; have := r2.size; omega⟩) (fun h => ⟨by have := HB1.out.1.size; omega, h.2⟩)))
  have HB2 := Aside0.mk (show Below w.heap.size w w2 from ((Chg.of_below HB1.out.1 (fun _ => False)).then_ r2 (fun k hk => .inr hk.1)).below (Nat.le_refl _) (fun k hk => hk.elim))
  generalize (ext (fun k => w.heap.size ≤ k ∧ k < w.heap.size + 3) W1 w2) = G0 at HA2 HF2
  clear r1 r2 hSt HB1
  have HSI := Aside0.mk (fun i => stT_inv HE.out.1 h0 h1 i)
  have HSP := Aside0.mk (fun i => (show stT E o i <+: S by rw [← HS.out]; exact stT_sub E HE.out.1 h0 h1 i))
  have hSl : S.length ≤ 256 := by
    have h2 := (states_inv HE.out.1 h0 h1).len
    rw [HS.out] at h2
    exact Nat.le_trans h2 (Nat.pow_le_pow_right (by decide) HE.out.2.1)
  have HSl := Aside0.mk hSl
  have Hm := Aside0.mk hm
  clear hSl hmm h0 h1 hm
  go_wp2_with fail
  go_loopw [9] (fun I wr => ∃ (i : Nat) (G : Nat → Prop), I = .int .i64 (i : Int) ∧ i ≤ 256 ∧ Aside0 (AuX wr G p pg (stT E o i) (stP E S i 0) (200 * i + 1)) ∧ Aside0 (∀ k, G k → w.heap.size ≤ k ∧ k < wr.heap.size) ∧ Aside0 (Below w.heap.size w wr) ∧ Aside0 (∀ j, j < i → j < (stT E o j).length ∧ ((stT E o j).length : Int) ≤ most)) (fun I _ => 1000 - (intOf I).toNat)
  case atStart => exact ⟨0, G0, rfl, by omega, HA2, HF2, HB2, ⟨fun j hj => absurd hj (Nat.not_lt_zero _)⟩⟩
  case round =>
    obtain ⟨i, G, rfl, hi, HA, HF, HB, HJ⟩ := hrel
    obtain ⟨A, c, ms, mi, hb, -, -⟩ := HA.out.hdr
    have c1 : wr.cell? ⟨p, 1, none⟩ = some (.slice A (stT E o i).length c) := blk_cellD hb 1 _ rfl
    obtain ⟨ln, hln⟩ : ∃ ln, (stT E o i).length = ln := ⟨_, rfl⟩
    rw [hln] at c1
    have Hln := Aside0.mk hln
    have hl256 : ln ≤ 256 := by
      have h2 := (HSP.out i).length_le
      have h3 := HSl.out
      omega
    have i3 : (i : Int) ≤ 256 := by omega
    have l3 : (ln : Int) ≤ 256 := by omega
    have Hl256 := Aside0.mk hl256
    clear hb hln hl256
    by_cases hin : i < ln
    · have hnb : decide ((i : Int) < (ln : Int)) = true := decide_eq_true (by omega)
      have hnc : decide (i < ln) = true := decide_eq_true hin
      by_cases hmo : (ln : Int) ≤ most
      · have q1 : decide (most < (ln : Int)) = false := decide_eq_false (by omega)
        have hs1 : (stT E o i).getD i [] = S.getD i [] := by
          rw [List.getD_eq_getElem?_getD, List.getD_eq_getElem?_getD, pre_get (HSP.out i) (by rw [Hln.out]; exact hin)]
        have hsm : Sm n (S.getD i []) ∧ S.getD i [] ≠ [] := (HSI.out i).sm _ (by rw [← hs1]; exact getD_mem (by rw [Hln.out]; exact hin))
        have hfl := fields_len E (S.getD i [])
        have hsome : (stT E o i)[i]? = some (S.getD i []) := by
          rw [← hs1, List.getD_eq_getElem?_getD, List.getElem?_eq_getElem (by rw [Hln.out]; exact hin)]; rfl
        have hfd : fldG E (stT E o i) (i : Int) = fieldsG E (S.getD i []) := by
          unfold fldG; rw [if_pos ⟨by omega, by rw [Hln.out]; omega⟩, atG_nat (by rw [Hln.out]; exact hin), hs1]
        have hnx := stT_some hsome
        have hfo := fields_ok HE.out.2.2.2 (S.getD i [])
        obtain ⟨s, hss⟩ : ∃ s, S.getD i [] = s := ⟨_, rfl⟩
        rw [hss] at hs1 hsm hfl hsome hfd hnx hfo
        obtain ⟨fl, hfl2⟩ : ∃ fl, fieldsG E s = fl := ⟨_, rfl⟩
        rw [hfl2] at hfl hfd hnx hfo
        have HC := Aside0.mk (afields_any p pg _ G (stT E o i) _ T E (i : Int) wr HA.out (H.out.1.below HB.out) (fun t ht => by
          have h2 := sm_ok HE.out.2.1 ((HSI.out i).sm t ht).1
          exact ⟨by omega, h2.2⟩) (by have := HE.out.2.2.1; omega) (right_ok HE.out.2.1 HE.out.1))
        rw [hfd] at HC
        have Hs := Aside0.mk (And.intro hss (And.intro hfl2 (And.intro hsm (And.intro hsome (And.intro hnx hfo)))))
        have Hfl := Aside0.mk (show fl.length ≤ 60 by have := HE.out.2.2.1; omega)
        have Hin := Aside0.mk (And.intro hin hmo)
        clear hin hmo hs1 hsm hfl hsome hfd hnx hss hfl2 hfo
        go_wp2_with fail
        refine HC.out.mono ?_
        rintro e w3 ⟨vf, rfl, r1, r2⟩
        obtain ⟨Af, cf, rfl, hcf, hrf⟩ := r1.rd
        have HB3 := Aside0.mk r2
        have HV3 := Aside0.mk (show Stay G w3 (.slice Af fl.length cf) fl from Stay.of_own (OwF.of_own r1 (F := fun k => wr.heap.size ≤ k) (fun k hk _ => hk)) (fun k hk hG => by have := (HF.out k hG).2; omega))
        have HA3 := Aside0.mk (show AuX w3 G p pg (rowT E s (stT E o i) (fl.take 0)) (stP E S i 0) (200 * i + 2 * 0 + 1) from HA.out.below r2)
        have HF3 := Aside0.mk (fun k (hk : G k) => (show w.heap.size ≤ k ∧ k < w3.heap.size from ⟨(HF.out k hk).1, by have := (HF.out k hk).2; have := r2.size; omega⟩))
        have HBw3 := Aside0.mk (bel_trans HB.out r2)
        obtain ⟨m, hmm⟩ : ∃ m, fl.length = m := ⟨_, rfl⟩
        rw [hmm] at HV3 Hfl ⊢
        have Hmm := Aside0.mk hmm
        clear r1 r2 hcf hrf hmm c1
        go_wp2_with fail
        go_loopw [53] (fun I wx => ∃ (j : Nat) (G' : Nat → Prop), I = .int .i64 (j : Int) ∧ j ≤ m ∧ Aside0 (AuX wx G' p pg (rowT E s (stT E o i) (fl.take j)) (stP E S i j) (200 * i + 2 * j + 1)) ∧ Aside0 (Stay G' wx (.slice Af m cf) fl) ∧ Aside0 (∀ k, G' k → w.heap.size ≤ k ∧ k < wx.heap.size) ∧ Aside0 (Below w.heap.size w wx)) (fun I _ => m - (intOf I).toNat)
        case atStart => exact ⟨0, G, rfl, Nat.zero_le _, HA3, HV3, HF3, HBw3⟩
        case round =>
          clear HA3 HV3 HF3 HBw3 HB3 HC HA HF HB
          obtain ⟨j, G', rfl, hj, HA, HV, HF, HB⟩ := hrel
          by_cases hjn : j < m
          · have hnb : decide ((j : Int) < (m : Int)) = true := decide_eq_true (by omega)
            have hnc : decide (j < m) = true := decide_eq_true hjn
            have hjl : j < fl.length := by rw [Hmm.out]; exact hjn
            obtain ⟨A', c', e', hc', hr'⟩ := HV.out.rd
            obtain ⟨ad, had, hx⟩ := hr'.at_ (j : Int) (by omega) (by omega)
            injection e' with ea eb ec
            subst ea
            subst had
            rw [Int.toNat_natCast] at hx
            have hx2 : rd fl (j : Int) = fl.getD j 0 := by simp [rd]
            obtain ⟨f, hff⟩ : ∃ f, fl.getD j 0 = f := ⟨_, rfl⟩
            rw [hx2, hff] at hx
            have hfok : ok64 f := Hs.out.2.2.2.2.2 f (by rw [← hff]; exact getD_mem hjl)
            have htk := take_snoc hjl
            rw [hff] at htk
            have hrow : meet (rowT E s (stT E o i) (fl.take j)) (nextG E f s) = rowT E s (stT E o i) (fl.take (j + 1)) := by rw [htk, rowT_snoc]
            have hpre : rowT E s (stT E o i) (fl.take (j + 1)) <+: S := by
              refine List.IsPrefix.trans ?_ (HSP.out (i + 1))
              rw [Hs.out.2.2.2.2.1]
              have e1 : fl = fl.take (j + 1) ++ fl.drop (j + 1) := (List.take_append_drop _ _).symm
              have e2 : rowT E s (stT E o i) fl = rowT E s (rowT E s (stT E o i) (fl.take (j + 1))) (fl.drop (j + 1)) := by
                conv => lhs; rw [e1]
                unfold rowT; rw [List.foldl_append]
              rw [e2]; exact rowT_pre _ _ _ _
            have hq : ((rowT E s (stT E o i) (fl.take (j + 1))).idxOf (nextG E f s) : Nat) = S.idxOf (nextG E f s) := idx_pre hpre (by rw [← hrow]; exact mem_meet.2 (.inl rfl))
            have hput := stP_put (S := S) (i := i) (q := ledTo E S s f) (by rw [Hs.out.1]; exact Hs.out.2.1) hjl hff (by rw [Hs.out.1])
            have hlp := (rowT_pre E s (fl.take j) (stT E o i)).length_le
            have hli : i < (rowT E s (stT E o i) (fl.take j)).length := by have := Hln.out; have := Hin.out.1; omega
            have hgi : (rowT E s (stT E o i) (fl.take j)).getD i [] = s := by
              rw [List.getD_eq_getElem?_getD, pre_get (rowT_pre E s (fl.take j) (stT E o i)) (by have := Hln.out; have := Hin.out.1; omega), Hs.out.2.2.2.1]; rfl
            obtain ⟨A2, c2, ms, mi, hb, hrd, -⟩ := HA.out.hdr
            obtain ⟨ad2, ⟨xa, xn, xc⟩, rfl, e0, e1⟩ := hrd i hli
            rw [hgi] at e1
            replace e0 : wr.cell? (ad2.add i) = some (.slice xa xn xc) := e0
            have hpl := blk_lt hb
            have c1 : wr.cell? ⟨p, 1, none⟩ = some (.slice (some ad2) (rowT E s (stT E o i) (fl.take j)).length c2) := blk_cellD hb 1 _ rfl
            have c2' : wr.cell? ⟨p, 2, none⟩ = some (.map (some ms)) := blk_cellD hb 2 _ rfl
            obtain ⟨Lj, hLj⟩ : ∃ Lj, rowT E s (stT E o i) (fl.take j) = Lj := ⟨_, rfl⟩
            obtain ⟨Lk, hLk⟩ : ∃ Lk, rowT E s (stT E o i) (fl.take (j + 1)) = Lk := ⟨_, rfl⟩
            rw [hLj] at c1 HA hrow hli
            rw [hLk] at hrow hpre hq
            obtain ⟨t, ht⟩ : ∃ t, nextG E f s = t := ⟨_, rfl⟩
            obtain ⟨q, hqq⟩ : ∃ q, ledTo E S s f = q := ⟨_, rfl⟩
            rw [hqq] at hput
            have hqi : (((Lk.idxOf t : Nat) : Int)) = q := by rw [← hqq, ← ht]; unfold ledTo; rw [hq]
            have hsm := (sm_ok HE.out.2.1 Hs.out.2.2.1.1)
            have htm := sm_ok HE.out.2.1 (sm_next HE.out.1 f s)
            rw [ht] at hrow hq htm
            have hL1 : Lj.length ≤ 1000 := by
              have h2 := hpre.length_le
              have h3 := (meet_pre Lj t).length_le
              rw [hrow] at h3
              have := HSl.out
              omega
            have hi256 : i ≤ 256 := by have := Hin.out.1; have := Hl256.out; omega
            have hj60 : j ≤ 60 := by have := Hfl.out; omega
            have hiok : ok64 (i : Int) := ok64_of (by omega) (by omega)
            have CN := Aside0.mk (fun (W : World) (hb : Below wr.heap.size wr W) => (next_any pg T E f (.slice xa xn xc) s W (H.out.1.below (bel_trans HB.out hb)) (e1.below hb) (H.out.2.1.below (bel_trans HB.out hb)) hfok hsm.2 (by omega)).mono (fun e w' ⟨v, h1, h2, h3⟩ => (show NSaid wr (fun w' v => Stay (FP G' p) w' v t) e w' from by
              rw [ht] at h2
              obtain ⟨A5, c5, rfl, -, -⟩ := h2.rd
              refine ⟨A5, t.length, c5, h1, bel_trans hb h3, ⟨Stay.of_own (OwF.of_own h2 (F := fun k => W.heap.size ≤ k) (fun k hk _ => hk)) (fun k hk hG => ?_)⟩⟩
              have h5 := hb.size
              have h6 := hpl
              rcases hG with hG | hG
              · have h4 := (HF.out k hG).2
                omega
              · omega)))
            have CS := Aside0.mk (fun (W : World) (v : Value) (hb : Below wr.heap.size wr W) (hv : Stay (FP G' p) W v t) => (state_any p pg _ G' Lj _ v t W (HA.out.below hb) hv (H.out.2.2.below (bel_trans HB.out hb)) htm.2 (by omega) hL1 (by omega)).mono (fun e w' ⟨h1, h2, h3, h4⟩ => (show CSaid p ms (i : Int) f q (fun w7 => ∃ G7 : Nat → Prop, AuX w7 G7 p pg Lk (stP E S i (j + 1)) (200 * i + 2 * (j + 1) + 1) ∧ Stay G7 w7 (.slice (some ad) m cf) fl ∧ (∀ k, G7 k → w.heap.size ≤ k ∧ k < w7.heap.size) ∧ Below w.heap.size w w7) e w' from by
              rw [hrow] at h1 h2
              rw [bel_cell hb c2'] at h4
              obtain ⟨w7, g1, g2, g3, g4⟩ := h2.store h4 (i : Int) f q hiok hfok (by omega)
              refine ⟨by rw [h1, hqi], h4, w7, g1, g2, ⟨ext G' W w', ?_, ?_, fun k hk => ?_, ?_⟩⟩
              · rw [hput]; exact g3.more (by omega)
              · exact ((HV.out.below hb).next h3 (F' := ext G' W w') (fun k hk => hk.elim .inl (fun h => .inr h.1))).next g4 (fun k hk => .inl hk)
              · have z1 := hb.size
                have z2 := h3.size
                have z3 := g4.size
                have z4 := HB.out.size
                exact hk.elim (fun h => ⟨(HF.out k h).1, by have := (HF.out k h).2; omega⟩) (fun h => ⟨by omega, by omega⟩)
              · refine (((Chg.of_below (bel_trans HB.out hb) (fun _ => False)).then_ h3 (fun k hk => .inr (HF.out k hk).1)).then_ g4 (fun k hk => hk.elim (fun h => .inr (HF.out k h).1) (fun h => .inr (by have z1 := hb.size; have z4 := HB.out.size; omega)))).below (Nat.le_refl _) (fun k hk => hk.elim))))
            obtain ⟨nj, hnj⟩ : ∃ nj, Lj.length = nj := ⟨_, rfl⟩
            rw [hnj] at c1 hli
            have l4 : (i : Int) < (nj : Int) := by omega
            have l5 : 0 ≤ (i : Int) := by omega
            have j0 : 0 ≤ (j : Int) := by omega
            have j1 : (j : Int) < (m : Int) := by omega
            have j2 : (j : Int) ≤ 60 := by omega
            have Hj := Aside0.mk hjn
            have HLk := Aside0.mk hLk
            have HBr := Below.refl wr.heap.size wr
            clear eb ec hjn hj hjl hc' hr' hx2 hff hfok htk hrow hpre hq hput hlp hli hgi hb hrd e1 hLj hLk ht hqq hqi hsm htm hL1 hi256 hj60 hiok hnj
            replace l4 := eq_true l4
            replace l5 := eq_true l5
            replace j0 := eq_true j0
            replace j1 := eq_true j1
            go_wp2_with fail
            refine wp_region_held_drew (S := (fun W' => W'.cell? ⟨p, 2, none⟩ = some (.map (some ms)))) (by kernel_rfl) ?_ (fun hHeld => ?_)
            · exact bel_cell (below_drew (Below.refl _ _)) c2'
            refine wpAnyH_take (i := 0) (oi := _) (v := ?_) (List.getElem?_toArray.trans rfl) (by kernel_rfl) (by kernel_rfl) (by kernel_rfl) (fun _ _ _ h => h) (Or.inl ⟨by rfl, ?_⟩) (by assumption) ?_
            rotate_left
            · intro w hSw; (try dsimp only at hSw); go_simp <;> with_reducible rfl
            try simp only [Act.put, List.setIfInBounds_toArray, List.set_cons_zero, List.set_cons_succ]
            refine wpAnyH_take (i := 1) (oi := _) (v := ?_) (List.getElem?_toArray.trans rfl) (by kernel_rfl) (by kernel_rfl) (by kernel_rfl) (fun _ _ _ h => h) (Or.inl ⟨by rfl, ?_⟩) (by assumption) ?_
            rotate_left
            · intro w hSw; (try dsimp only at hSw); go_simp <;> with_reducible rfl
            try simp only [Act.put, List.setIfInBounds_toArray, List.set_cons_zero, List.set_cons_succ]
            refine wpAnyH_take (i := 2) (oi := _) (v := ?_) (List.getElem?_toArray.trans rfl) (by kernel_rfl) (by kernel_rfl) (by kernel_rfl) (fun _ _ _ h => h) (Or.inl ⟨by rfl, ?_⟩) (by assumption) ?_
            rotate_left
            · intro w hSw; (try dsimp only at hSw); go_simp <;> with_reducible rfl
            try simp only [Act.put, List.setIfInBounds_toArray, List.set_cons_zero, List.set_cons_succ]
            refine wpAnyH_take (i := 3) (oi := _) (v := ?_) (List.getElem?_toArray.trans rfl) (by kernel_rfl) (by kernel_rfl) (by kernel_rfl) (fun _ _ _ h => h) (Or.inl ⟨by rfl, ?_⟩) (by assumption) ?_
            rotate_left
            · intro w hSw; (try dsimp only at hSw); go_simp <;> with_reducible rfl
            try simp only [Act.put, List.setIfInBounds_toArray, List.set_cons_zero, List.set_cons_succ]
            refine wpAnyH_take (i := 4) (oi := _) (v := ?_) (List.getElem?_toArray.trans rfl) (by kernel_rfl) (by kernel_rfl) (by kernel_rfl) (fun _ _ _ h => h) (Or.inl ⟨by rfl, ?_⟩) (by assumption) ?_
            rotate_left
            · intro w hSw; (try dsimp only at hSw); go_simp <;> with_reducible rfl
            try simp only [Act.put, List.setIfInBounds_toArray, List.set_cons_zero, List.set_cons_succ]
            refine wpAnyH_take (i := 5) (oi := _) (v := ?_) (List.getElem?_toArray.trans rfl) (by kernel_rfl) (by kernel_rfl) (by kernel_rfl) (fun _ _ _ h => h) (Or.inl ⟨by rfl, ?_⟩) (by assumption) ?_
            rotate_left
            · intro w hSw; (try dsimp only at hSw); go_simp <;> with_reducible rfl
            try simp only [Act.put, List.setIfInBounds_toArray, List.set_cons_zero, List.set_cons_succ]
            refine wpAnyH_take (i := 6) (oi := _) (v := ?_) (List.getElem?_toArray.trans rfl) (by kernel_rfl) (by kernel_rfl) (by kernel_rfl) (fun _ _ _ h => h) (Or.inl ⟨by rfl, ?_⟩) (by assumption) ?_
            rotate_left
            · intro w hSw; (try dsimp only at hSw); go_simp <;> with_reducible rfl
            try simp only [Act.put, List.setIfInBounds_toArray, List.set_cons_zero, List.set_cons_succ]
            refine wpAnyH_take (i := 7) (oi := _) (v := ?_) (List.getElem?_toArray.trans rfl) (by kernel_rfl) (by kernel_rfl) (by kernel_rfl) (fun _ _ _ h => h) (Or.inl ⟨by rfl, ?_⟩) (by assumption) ?_
            rotate_left
            · intro w hSw; (try dsimp only at hSw); go_simp <;> with_reducible rfl
            try simp only [Act.put, List.setIfInBounds_toArray, List.set_cons_zero, List.set_cons_succ]
            refine wpAnyH_take (i := 8) (oi := _) (v := ?_) (List.getElem?_toArray.trans rfl) (by kernel_rfl) (by kernel_rfl) (by kernel_rfl) (fun _ _ _ h => h) (Or.inl ⟨by rfl, ?_⟩) (by assumption) ?_
            rotate_left
            · intro w hSw; (try dsimp only at hSw); go_simp <;> with_reducible rfl
            try simp only [Act.put, List.setIfInBounds_toArray, List.set_cons_zero, List.set_cons_succ]
            refine wpAnyH_take (i := 9) (oi := _) (v := ?_) (List.getElem?_toArray.trans rfl) (by kernel_rfl) (by kernel_rfl) (by kernel_rfl) (fun _ _ _ h => h) (Or.inl ⟨by rfl, ?_⟩) (by assumption) ?_
            rotate_left
            · intro w hSw; (try dsimp only at hSw); go_simp <;> with_reducible rfl
            try simp only [Act.put, List.setIfInBounds_toArray, List.set_cons_zero, List.set_cons_succ]
            refine wpAnyH_take (i := 10) (oi := _) (v := ?_) (List.getElem?_toArray.trans rfl) (by kernel_rfl) (by kernel_rfl) (by kernel_rfl) (fun _ _ _ h => h) (Or.inl ⟨by rfl, ?_⟩) (by assumption) ?_
            rotate_left
            · intro w hSw; (try dsimp only at hSw); go_simp <;> with_reducible rfl
            try simp only [Act.put, List.setIfInBounds_toArray, List.set_cons_zero, List.set_cons_succ]
            refine wpAnyH_take (i := 11) (oi := _) (v := ?_) (List.getElem?_toArray.trans rfl) (by kernel_rfl) (by kernel_rfl) (by kernel_rfl) (fun _ _ _ h => h) (Or.inl ⟨by rfl, ?_⟩) (by assumption) ?_
            rotate_left
            · intro w hSw; (try dsimp only at hSw); go_simp <;> with_reducible rfl
            try simp only [Act.put, List.setIfInBounds_toArray, List.set_cons_zero, List.set_cons_succ]
            refine wpAnyH_take (i := 12) (oi := _) (v := ?_) (List.getElem?_toArray.trans rfl) (by kernel_rfl) (by kernel_rfl) (by kernel_rfl) (fun _ _ _ h => h) (Or.inl ⟨by rfl, ?_⟩) (by assumption) ?_
            rotate_left
            · intro w hSw; (try dsimp only at hSw); go_simp <;> with_reducible rfl
            try simp only [Act.put, List.setIfInBounds_toArray, List.set_cons_zero, List.set_cons_succ]
            refine wpAnyH_take (i := 14) (oi := _) (v := ?_) (List.getElem?_toArray.trans rfl) (by kernel_rfl) (by kernel_rfl) (by kernel_rfl) (fun _ _ _ h => h) (Or.inl ⟨by rfl, ?_⟩) (by assumption) ?_
            rotate_left
            · intro w hSw; (try dsimp only at hSw); go_simp <;> with_reducible rfl
            try simp only [Act.put, List.setIfInBounds_toArray, List.set_cons_zero, List.set_cons_succ]
            refine wpAnyH_ready (rs := [13]) (by kernel_rfl) (by simp) ?_
            refine (AllReadyH.cons (o := _) (List.getElem?_toArray.trans rfl) (fun K hK => ?_) AllReadyH.nil)
            go_simp
            refine hK.out _ _ ?_ (fun hHeld => ?_)
            · exact bel_cell (below_drew (Below.refl _ _)) c2'
            clear hK K
            try simp only [Act.put, List.setIfInBounds_toArray, List.set_cons_zero, List.set_cons_succ]
            refine wpAnyH_take (i := 15) (oi := _) (v := ?_) (List.getElem?_toArray.trans rfl) (by kernel_rfl) (by kernel_rfl) (by kernel_rfl) (fun _ _ _ h => h) (Or.inl ⟨by rfl, ?_⟩) (by assumption) ?_
            rotate_left
            · intro w hSw; (try dsimp only at hSw); go_simp <;> with_reducible rfl
            try simp only [Act.put, List.setIfInBounds_toArray, List.set_cons_zero, List.set_cons_succ]
            refine wpAnyH_ready (rs := [16]) (by kernel_rfl) (by simp) ?_
            refine (AllReadyH.cons (o := _) (List.getElem?_toArray.trans rfl) (fun K hK => ?_) AllReadyH.nil)
            go_simp
            refine hK.out _ _ ?_ (fun hHeld => ?_)
            · exact bel_cell (below_drew (Below.refl _ _)) c2'
            clear hK K
            try simp only [Act.put, List.setIfInBounds_toArray, List.set_cons_zero, List.set_cons_succ]
            refine wpAnyH_ready (rs := [17]) (by kernel_rfl) (by simp) ?_
            refine (AllReadyH.cons (o := _) (List.getElem?_toArray.trans rfl) (fun K hK => ?_) AllReadyH.nil)
            go_simp
            (with_reducible refine (CN.out _ (below_drew (Below.refl _ _))).mono ?_)
            rintro e w5 ⟨A5, n5, c5, rfl, HB5, HS5⟩
            refine hK.out _ _ ?_ (fun hHeld => ?_)
            · exact bel_cell HB5 c2'
            clear hK K
            try simp only [Act.put, List.setIfInBounds_toArray, List.set_cons_zero, List.set_cons_succ]
            refine wpAnyH_ready (rs := [18]) (by kernel_rfl) (by simp) ?_
            refine (AllReadyH.cons (o := _) (List.getElem?_toArray.trans rfl) (fun K hK => ?_) AllReadyH.nil)
            go_simp
            (with_reducible refine (CS.out _ _ HB5 HS5.out).mono ?_)
            rintro e w6 ⟨rfl, k6, w7, hst, k7, HX⟩
            refine hK.out _ _ ?_ (fun hHeld => ?_)
            · exact k6
            clear hK K
            try simp only [Act.put, List.setIfInBounds_toArray, List.set_cons_zero, List.set_cons_succ]
            refine wpAnyH_ready (rs := [19]) (by kernel_rfl) (by simp) ?_
            refine (AllReadyH.cons (o := _) (List.getElem?_toArray.trans rfl) (fun K hK => ?_) AllReadyH.nil)
            go_simp
            refine hK.out _ _ ?_ (fun hHeld => ?_)
            · exact k7
            clear hK K
            try simp only [Act.put, List.setIfInBounds_toArray, List.set_cons_zero, List.set_cons_succ]
            refine wpAnyH_done (by kernel_rfl) ?_ _
            obtain ⟨G7, x1, x2, x3, x4⟩ := HX.out
            rw [← HLk.out] at x1
            have HX1 := Aside0.mk x1
            have HX2 := Aside0.mk x2
            have HX3 := Aside0.mk x3
            have HX4 := Aside0.mk x4
            clear x1 x2 x3 x4 HX hst k6 k7 HBr HB5
            go_wp2_with fail
            go_roundw
            case rel => exact ⟨j + 1, G7, by go_num, Hj.out, HX1, HX2, HX3, HX4⟩
            case measure => have := Hj.out; simp [intOf]; omega
          · have hnb : decide ((j : Int) < (m : Int)) = false := decide_eq_false (by omega)
            have hnc : decide (j < m) = false := decide_eq_false hjn
            obtain rfl : j = m := by omega
            have ht : fl.take j = fl := List.take_of_length_le (by rw [Hmm.out]; exact Nat.le_refl _)
            have hnx := stP_next (E := E) (S := S) (i := i) (fl := fl) (by rw [Hs.out.1]; exact Hs.out.2.1)
            rw [Hmm.out] at hnx
            rw [ht, hnx, ← Hs.out.2.2.2.2.1] at HA
            have HA9 := Aside0.mk (HA.out.more (M' := 200 * (i + 1) + 1) (by have := Hfl.out; omega))
            have HJ9 := Aside0.mk (fun k (hk : k < i + 1) => (show k < (stT E o k).length ∧ ((stT E o k).length : Int) ≤ most by
              rcases Nat.lt_or_ge k i with h | h
              · exact HJ.out k h
              · obtain rfl : k = i := by omega
                rw [Hln.out]; exact ⟨Hin.out.1, Hin.out.2⟩))
            have hi2 : i + 1 ≤ 256 := by have := Hin.out.1; have := Hl256.out; omega
            have Hi2 := Aside0.mk hi2
            clear hjn hj ht hnx HJ hi2
            go_wp2_with fail
            go_roundw
            case rel => exact ⟨i + 1, G', by go_num, Hi2.out, HA9, HF, HB, HJ9⟩
            case measure => have := Hi2.out; simp [intOf]; omega
      · have q1 : decide (most < (ln : Int)) = true := decide_eq_true (by omega)
        have Hbig := Aside0.mk (show ¬ ((S.length : Nat) : Int) ≤ most by
          have h2 := (HSP.out i).length_le
          have h3 := Hln.out
          omega)
        clear hmo hin
        go_wp2_with fail
        go_ret2
        exact ⟨HB.out, .inr ⟨by have := Hbig.out; omega, rfl⟩⟩
    · have hnb : decide ((i : Int) < (ln : Int)) = false := decide_eq_false (by omega)
      have hnc : decide (i < ln) = false := decide_eq_false hin
      have hST : S = stT E o i := by
        rw [← HS.out]
        exact states_done HE.out.1 Ho.out.1 Ho.out.2 (by rw [Hln.out]; omega)
      have hpos : 0 < i := by
        rcases Nat.eq_zero_or_pos i with e | e
        · have h2 := Hln.out
          rw [e, stT_zero] at h2
          simp at h2; omega
        · exact e
      have hJ := HJ.out (i - 1) (by omega)
      have hle := (stT_pre E o (i - 1) i (by omega)).length_le
      have hSi : S.length = i := by rw [hST]; have := Hln.out; omega
      have hfin : stP E S i 0 = stepG E S := by rw [← hSi]; exact stP_end E S
      have HAf := Aside0.mk (show AuX wr G p pg S (stepG E S) 100000 by
        have h2 := HA.out
        rw [← hST, hfin] at h2
        exact h2.more (by omega))
      have Hsm := Aside0.mk (show ((S.length : Nat) : Int) ≤ most by have := Hln.out; omega)
      clear hin hST hpos hJ hle hSi hfin
      go_wp2_with fail
      go_ret2
      exact ⟨HB.out, .inl ⟨Hsm.out, p, G, rfl, HAf.out, Hpp.out, fun k hk => (HF.out k hk).1⟩⟩
theorem build_any (pg : Nat) (T : List ByteArray) (E : List GE) (o most : Int) (w : World) (hg : GA w pg T E) (hT : TZ w) (hP : P10 w) (hR : RightG T.length E) (hn : T.length ≤ 8) (hE : E.length ≤ 60) (hok : ∀ a f z, (a, f, z) ∈ E → ok64 f) (h0 : 0 ≤ o) (h1 : o < T.length) (hm : ok64 most) :
    Calls Tryz.prog 21 #[.pointer (some ⟨pg, 0, none⟩), .int .i64 o, .int .i64 most] w (BuildSaid w pg E (statesG E T.length o) most) :=
  (build2_any pg T E o most w hg hT hP hR hn hE hok h0 h1 hm).mono fun e w' h => ⟨h.1, h.2.imp (fun ⟨a, p, F, b, c, _⟩ => ⟨a, p, F, b, c⟩) id⟩
end Go.Proofs.YtkpadjhdneiniaaGreatDoor.Am
end
