/- Ef, Eg, Eh, Ei, Ej -/
import Derived.Test.YtkpadjhdneiniaaGreatDoorEc
import Derived.Test.YtkpadjhdneiniaaGreatDoorBg
/- Ef: The walker of package equal: its pairs; number. -/
section
namespace Go.Proofs.YtkpadjhdneiniaaGreatDoor.Am
set_option linter.unusedVariables false
open Go.RowKit Go.Proofs.YtkpadjhdneiniaaGreatDoorW.PrintWords Go.Proofs.YtkpadjhdneiniaaGreatDoorW.PrintLast Go.Proofs.YtkpadjhdneiniaaGreatDoorW.PrintMore Go.Maps
open Go.Proofs.YtkpadjhdneiniaaGreatDoor.Base Go.Proofs.YtkpadjhdneiniaaGreatDoor.Map Go.Proofs.YtkpadjhdneiniaaGreatDoor.Sl Go.Proofs.YtkpadjhdneiniaaGreatDoor.Ow Go.Proofs.YtkpadjhdneiniaaGreatDoor.Se Go.Proofs.YtkpadjhdneiniaaGreatDoor.Gr Go.Proofs.YtkpadjhdneiniaaGreatDoor.Rf Go.Proofs.YtkpadjhdneiniaaGreatDoor.Tx Go.Proofs.YtkpadjhdneiniaaGreatDoor.Au



open Go.Proofs.YtkpadjhdneiniaaGreatDoor.Eb
open Go.Proofs.YtkpadjhdneiniaaGreatDoor.Un (Uni)

theorem wrap_add {m n : Nat} (h : m + n < 9223372036854775808) : IntKind.i64.wrap ((m : Int) + (n : Int)) = ((m + n : Nat) : Int) := by
  rw [show (m : Int) + (n : Int) = ((m + n : Nat) : Int) by omega]
  generalize m + n = k at h
  have e : (k : Int) % 2 ^ 64 = k := Int.emod_eq_of_lt (by omega) (by omega)
  simp only [IntKind.wrap, IntKind.bits, IntKind.signed, e]
  rw [if_neg]
  simp
  omega
/-! rows of the walker's pairs -/
abbrev Wp := Int × Int × SlH
abbrev noW : Wp := (0, 0, noH)
abbrev Qp := Int × Int × List Int
abbrev noQ : Qp := (0, 0, [])
def pairW (e : Wp) : List Value := [.int .i64 e.1, .int .i64 e.2.1, encH e.2.2]
def kW : Kd Wp where
  sz := 3
  E := []
  K := fun _ e cs => cs = pairW e
  M := fun _ _ _ e cs => cs = pairW e
  K_len := fun h => by rw [h]; rfl
  K_one := fun h u hu => by rw [h] at hu; simp only [pairW, List.mem_cons, List.not_mem_nil, or_false] at hu; rcases hu with rfl | rfl | rfl <;> rfl
  K_below := fun _ h => h
  K_of_M := fun h => h
  M_mono := fun _ h => h
  M_bound := fun h => h
  M_move := fun _ h => h
  M_lower := fun _ h => h
theorem info106 : (Tryz.prog.info? 106).map (fun i => (i.zero, i.size, i.bytes)) = some (some (.agg #[.int .i64 0, .int .i64 0, .slice none 0 0]), 3, 40) := by kernel_rfl
theorem C_atW {w : World} {A : Option Addr} {l : List Wp} (h : kW.C w A l.length l) (i : Nat) (hi : i < l.length) :
    ∃ ad, A = some ad ∧ w.cell? (ad.add (i * 3)) = some (.int .i64 (l.getD i noW).1) ∧ w.cell? ⟨(ad.add (i * 3)).block, (ad.add (i * 3)).off + 1, none⟩ = some (.int .i64 (l.getD i noW).2.1) ∧ w.cell? ⟨(ad.add (i * 3)).block, (ad.add (i * 3)).off + 2, none⟩ = some (encH (l.getD i noW).2.2) := by
  obtain ⟨ad, c, hA, _, hk, hc⟩ := Kd.C_get h noW (i : Int) (by omega) (by omega)
  rw [Int.toNat_natCast] at hk hc
  have hk' : c = pairW (l.getD i noW) := hk
  subst hk'
  have e : ∀ j, j ≠ 0 → ad.add (i * 3 + j) = ⟨(ad.add (i * 3)).block, (ad.add (i * 3)).off + j, none⟩ := fun j hj => by
    unfold Addr.add
    rw [if_neg (by omega)]
    split
    · simp
    · simp; omega
  refine ⟨ad, hA, hc 0 _ rfl, ?_, ?_⟩
  · rw [← e 1 (by omega)]; exact hc 1 _ rfl
  · rw [← e 2 (by omega)]; exact hc 2 _ rfl
/-- what changes under a walker -/
def WF (FU FT : Nat → Prop) (pw : Nat) (k : Nat) : Prop := FU k ∨ FT k ∨ k = pw
/-- what may change, and what else may be written to -/
def DR (D R : Nat → Prop) (k : Nat) : Prop := D k ∨ R k
/-- A walker in block pw, made since w0: its union and the pairs still to be gone through. All that changes lies in D. -/
structure WK (w0 w : World) (D R : Nat → Prop) (pw pu pa pb : Nat) (hs : List Int) (Q : List Qp) : Prop where
  mk :: (out : ∃ (FU FT : Nat → Prop) (vU vS vH vT : Value) (hq : List Wp),
    w.heap[pw]? = some (.cells #[.pointer (some ⟨pa, 0, none⟩), .pointer (some ⟨pb, 0, none⟩), .pointer (some ⟨pu, 0, none⟩), vT] 103 (0, 0)) ∧
    Uni w FU pu vU vS vH hs ∧ Kd.Q kW 106 w 0 FT vT hq ∧ hq.length = Q.length ∧
    (∀ j, j < Q.length → (hq.getD j noW).1 = (Q.getD j noQ).1 ∧ (hq.getD j noW).2.1 = (Q.getD j noQ).2.1 ∧ Stay (DR D R) w (encH (hq.getD j noW).2.2) (Q.getD j noQ).2.2) ∧
    (∀ k, FU k → w0.heap.size ≤ k ∧ D k ∧ k ≠ pw ∧ ¬ FT k) ∧ (∀ k, FT k → w0.heap.size ≤ k ∧ D k ∧ k ≠ pw) ∧ w0.heap.size ≤ pw ∧ D pw ∧ (∀ k, D k → k < w.heap.size) ∧ Below w0.heap.size w0 w)
section
variable {w0 w w1 : World} {D R : Nat → Prop} {pw pu pa pb : Nat} {hs : List Int} {Q : List Qp}
theorem WK.bel (h : WK w0 w D R pw pu pa pb hs Q) : Below w0.heap.size w0 w := by obtain ⟨_, _, _, _, _, _, _, _, _, _, _, _, _, _, _, _, _, h⟩ := h; exact h
theorem WK.lims (h : WK w0 w D R pw pu pa pb hs Q) : ∀ k, D k → k < w.heap.size := by obtain ⟨_, _, _, _, _, _, _, _, _, _, _, _, _, _, _, _, h, _⟩ := h; exact h
theorem WK.below (h : WK w0 w D R pw pu pa pb hs Q) (hb : Below w.heap.size w w1) : WK w0 w1 D R pw pu pa pb hs Q := by
  obtain ⟨FU, FT, vU, vS, vH, vT, hq, h1, h2, h3, h4, h5, h6, h7, h8, h9, h10, h11⟩ := h
  exact ⟨FU, FT, vU, vS, vH, vT, hq, Ow.blk_below h1 hb, h2.below hb, Kd.Q_below h3 hb, h4, fun j hj => ⟨(h5 j hj).1, (h5 j hj).2.1, (h5 j hj).2.2.below hb⟩, h6, h7, h8, h9, fun k hk => Nat.lt_of_lt_of_le (h10 k hk) hb.size, bel_trans h11 hb⟩
theorem WK.hdr (h : WK w0 w D R pw pu pa pb hs Q) : ∃ A c, w.heap[pw]? = some (.cells #[.pointer (some ⟨pa, 0, none⟩), .pointer (some ⟨pb, 0, none⟩), .pointer (some ⟨pu, 0, none⟩), .slice A Q.length c] 103 (0, 0)) := by
  obtain ⟨FU, FT, vU, vS, vH, vT, hq, h1, h2, h3, h4, -⟩ := h
  obtain ⟨A, c, e1, -, -⟩ := Kd.Q_reads h3
  rw [h4] at e1; subst e1
  exact ⟨A, c, h1⟩
end
theorem DR_ext {D R : Nat → Prop} {w w1 : World} (k : Nat) (h : DR (ext D w w1) R k) : DR D R k ∨ w.heap.size ≤ k := h.elim (fun h => h.elim (fun h => .inl (.inl h)) (fun h => .inr h.1)) (fun h => .inl (.inr h))
/-- what else is new since may be written to -/
theorem WK.also {w0 w w1 : World} {D R R' : Nat → Prop} {pw pu pa pb : Nat} {hs : List Int} {Q : List Qp} (h : WK w0 w D R pw pu pa pb hs Q) (hb : Below w.heap.size w w1) (hR : ∀ k, R' k → R k ∨ w.heap.size ≤ k) : WK w0 w1 D R' pw pu pa pb hs Q := by
  obtain ⟨FU, FT, vU, vS, vH, vT, hq, h1, h2, h3, h4, h5, h6, h7, h8, h9, h10, h11⟩ := h
  exact ⟨FU, FT, vU, vS, vH, vT, hq, Ow.blk_below h1 hb, h2.below hb, Kd.Q_below h3 hb, h4, fun j hj => ⟨(h5 j hj).1, (h5 j hj).2.1, (h5 j hj).2.2.next (Chg.of_below hb _) (fun k hk => hk.elim (fun h => .inl (.inl h)) (fun h => (hR k h).imp .inr id))⟩, h6, h7, h8, h9, fun k hk => Nat.lt_of_lt_of_le (h10 k hk) hb.size, bel_trans h11 hb⟩
/-- a state's number in the union -/
def numW (la lb : Nat) (x : Int) (b : Nat) : Nat := if x = -1 then la + lb else b + x.toNat
set_option maxHeartbeats 8000000 in
set_option maxRecDepth 100000 in
theorem number_any (pw pu pa pb pga pgb Ma Mb : Nat) (Fa Fb : Nat → Prop) (S1 S2 : List (List Int)) (sa sb : Int → Int → Option Int) (vT : Value) (x : Int) (b : Nat) (w : World)
    (hb : w.heap[pw]? = some (.cells #[.pointer (some ⟨pa, 0, none⟩), .pointer (some ⟨pb, 0, none⟩), .pointer (some ⟨pu, 0, none⟩), vT] 103 (0, 0)))
    (ha : AuX w Fa pa pga S1 sa Ma) (hb2 : AuX w Fb pb pgb S2 sb Mb) (h1 : S1.length ≤ 1000) (h2 : S2.length ≤ 1000) (hx : -1 ≤ x ∧ x < 1000) (hbb : b ≤ 1000) :
    Calls Tryz.prog 93 #[.pointer (some ⟨pw, 0, none⟩), .int .i64 x, .int .i64 (b : Int)] w fun e w' => e = .returned (.int .i64 (numW S1.length S2.length x b : Nat)) ∧ Below w.heap.size w w' := by
  have c0 : w.cell? ⟨pw, 0, none⟩ = some (.pointer (some ⟨pa, 0, none⟩)) := blk_cellD hb 0 _ rfl
  have c1 : w.cell? ⟨pw, 1, none⟩ = some (.pointer (some ⟨pb, 0, none⟩)) := blk_cellD hb 1 _ rfl
  have HLa := Aside0.mk (fun (W' : World) (hb : Below w.heap.size w W') => alen_any pa pga Ma Fa S1 sa W' (ha.below hb))
  have HLb := Aside0.mk (fun (W' : World) (hb : Below w.heap.size w W') => alen_any pb pgb Mb Fb S2 sb W' (hb2.below hb))
  obtain ⟨la, hla⟩ : ∃ la, S1.length = la := ⟨_, rfl⟩
  obtain ⟨lb, hlb⟩ : ∃ lb, S2.length = lb := ⟨_, rfl⟩
  rw [hla] at HLa h1 ⊢
  rw [hlb] at HLb h2 ⊢
  have HBr := Below.refl w.heap.size w
  clear hb ha hb2 hla hlb
  by_cases h0 : x = -1
  · subst h0
    have e : numW la lb (-1) b = la + lb := if_pos rfl
    rw [e]
    have i1 : (la : Int) ≤ 1000 := by omega
    have i2 : (lb : Int) ≤ 1000 := by omega
    clear hx h1 h2 e
    go_enter Tryz.func93, Tryz.ntmps93
    go_wp2_with fail
    go_region_held3 (fun W' => W'.cell? ⟨pw, 0, none⟩ = some (.pointer (some ⟨pa, 0, none⟩)) ∧ W'.cell? ⟨pw, 1, none⟩ = some (.pointer (some ⟨pb, 0, none⟩)) ∧ Below w.heap.size w W') (first | (refine ⟨pw_cell_below (w := w) ?_ c0, pw_cell_below (w := w) ?_ c1, ?_⟩ <;> simp [*]) | go_keep)
      (first
        | (go_at_call 26; (with_reducible refine (HLa.out _ (by simp [*])).mono ?_); rintro e w2 ⟨rfl, rfl⟩)
        | (go_at_call 26; (with_reducible refine (HLb.out _ (by simp [*])).mono ?_); rintro e w2 ⟨rfl, rfl⟩)
        | fail)
    all_goals go_wp2_with fail
    all_goals go_ret
    refine ⟨?_, below_drew HBr⟩
    have hw : IntKind.i64.wrap ((la : Int) + (lb : Int)) = ((la + lb : Nat) : Int) := wrap_add (by omega)
    show Ending.returned (.int .i64 (IntKind.i64.wrap ((la : Int) + (lb : Int)))) = _
    rw [hw]
  · obtain ⟨k, rfl⟩ : ∃ k : Nat, x = (k : Int) := ⟨x.toNat, by omega⟩
    have e : numW la lb (k : Int) b = b + k := by unfold numW; rw [if_neg h0]; try rfl
    rw [e]
    have q1 : ((k : Int) == -1) = false := by rw [beq_eq_false_iff_ne]; omega
    have q2 : ¬ (k : Int) = -1 := by omega
    have q3 : decide ((k : Int) = -1) = false := decide_eq_false q2
    have i1 : (k : Int) ≤ 1000 := by omega
    have i2 : (b : Int) ≤ 1000 := by omega
    have Hx := Aside0.mk hx
    clear hx h1 h2 e h0 hbb
    go_enter Tryz.func93, Tryz.ntmps93
    go_wp2_with fail
    go_ret
    refine ⟨?_, HBr⟩
    rw [show ((b + k : Nat) : Int) = (b : Int) + (k : Int) by omega]
    go_num
end Go.Proofs.YtkpadjhdneiniaaGreatDoor.Am
end

/- Eg: The walker of package equal: meet. -/
section
namespace Go.Proofs.YtkpadjhdneiniaaGreatDoor.Am
set_option linter.unusedVariables false
open Go.RowKit Go.Proofs.YtkpadjhdneiniaaGreatDoorW.PrintWords Go.Proofs.YtkpadjhdneiniaaGreatDoorW.PrintLast Go.Proofs.YtkpadjhdneiniaaGreatDoorW.PrintMore Go.Maps
open Go.Proofs.YtkpadjhdneiniaaGreatDoor.Base Go.Proofs.YtkpadjhdneiniaaGreatDoor.Map Go.Proofs.YtkpadjhdneiniaaGreatDoor.Sl Go.Proofs.YtkpadjhdneiniaaGreatDoor.Ow Go.Proofs.YtkpadjhdneiniaaGreatDoor.Se Go.Proofs.YtkpadjhdneiniaaGreatDoor.Gr Go.Proofs.YtkpadjhdneiniaaGreatDoor.Rf Go.Proofs.YtkpadjhdneiniaaGreatDoor.Tx Go.Proofs.YtkpadjhdneiniaaGreatDoor.Au



open Go.Proofs.YtkpadjhdneiniaaGreatDoor.Eb
open Go.Proofs.YtkpadjhdneiniaaGreatDoor.Un (Uni joinS join_any joinL_len foldJ_len)

section
variable {ops : Array Oper} {o : Oper} {a : Act} {Q' : Exit → Act → World → Prop} {Kc : Act → World → Prop}
theorem appW_step {W : World} {G : Nat → Prop} (hw : Region.wanted o (yielded ops a.tmps) = true) (s x : Operand)
    (ho : o.op = .call { callee := .builtin .append, args := #[s, x], argTypes := #[101, 101] })
    (v : Value) (xs : List Wp) (y : Wp) (hs : a.eval s = v) (hx : a.eval x = .slice (some ⟨W.heap.size, 0, none⟩) 1 1)
    (HO : Kd.Q kW 106 W 0 G v xs) (hl : (xs.length + 1) * 40 ≤ 140737488355328)
    (h : ∀ v1 w1, Kd.Q kW 106 w1 0 (ext G W w1) v1 (xs ++ [y]) → W.grownBy w1 v.ownBlock → Chg G W w1 → Kc (a.put o.dst v1) w1) :
    if Region.wanted o (yielded ops a.tmps) = true then Oper.wp Tryz.prog o a (W.alloc (.cells #[.int .i64 y.1, .int .i64 y.2.1, encH y.2.2] 106)) Kc Q' else Kc (a.put o.dst undef) (W.alloc (.cells #[.int .i64 y.1, .int .i64 y.2.1, encH y.2.2] 106)) := by
  refine Kd.Q_append_step kW (w0 := W) (P := Tryz.prog) (p := y) (cs := pairW y) (ok := fun k => G k ∨ W.heap.size ≤ k) (okp := fun _ => False) 0 hw s x 101 106 (.agg #[.int .i64 0, .int .i64 0, .slice none 0 0]) 40 ho Tryz.underlying101 info106 rfl (by decide) (by decide) v xs hs hx rfl (fun _ h => h.elim) (fun _ hk => .inr hk) (Kd.Q_mono HO (fun k hk => .inl hk)) (Below.refl _ _) (Nat.zero_le _) hl ?_
  exact fun v1 w1 ho hb hg hat => h v1 w1 (Kd.Q_mono (Kd.Q_bound ho) (fun k hk => hk.1.elim .inl (fun h => .inr ⟨h, hk.2.2.1⟩))) hg (Chg.of_grown hg (fun k hk => HO.1 k hk))
end
theorem wk_pushed {w0 w w2 w1 : World} {D R : Nat → Prop} {pw pu pa pb : Nat} {FU FT : Nat → Prop} {vU vS vH vT v1 : Value} {hq : List Wp} {Q : List Qp} {hs' : List Int} {x : SlH} {a b : Int} {wd : List Int}
    (k1 : w2.heap[pw]? = some (.cells #[.pointer (some ⟨pa, 0, none⟩), .pointer (some ⟨pb, 0, none⟩), .pointer (some ⟨pu, 0, none⟩), vT] 103 (0, 0)))
    (hU : Uni w2 FU pu vU vS vH hs') (k4 : hq.length = Q.length)
    (k5 : ∀ j, j < Q.length → (hq.getD j noW).1 = (Q.getD j noQ).1 ∧ (hq.getD j noW).2.1 = (Q.getD j noQ).2.1 ∧ Stay (DR D R) w (encH (hq.getD j noW).2.2) (Q.getD j noQ).2.2)
    (k6 : ∀ k, FU k → w0.heap.size ≤ k ∧ D k ∧ k ≠ pw ∧ ¬ FT k) (k7 : ∀ k, FT k → w0.heap.size ≤ k ∧ D k ∧ k ≠ pw) (k8 : w0.heap.size ≤ pw) (k9 : D pw) (hl : ∀ k, D k → k < w2.heap.size) (hw : w.heap.size ≤ w2.heap.size) (hB : Below w0.heap.size w0 w2)
    (hu : Stay (DR D R) w (encH x) wd) (hD : Chg D w (w1.setCell ⟨pw, 3, none⟩ v1)) (hR : Kd.Q kW 106 w1 0 (ext FT w2.drew w1) v1 (hq ++ [(a, b, x)])) (hC0 : Chg FT w2.drew w1) :
    WK w0 (w1.setCell ⟨pw, 3, none⟩ v1) (ext D w (w1.setCell ⟨pw, 3, none⟩ v1)) R pw pu pa pb hs' (Q ++ [(a, b, wd)]) := by
  have hC : Chg FT w2 w1 := (Chg.of_below (below_drew (Below.refl _ _)) FT).then_ hC0 (fun k hk => .inl hk)
  have hs1 := hC.size
  have hx : ∀ k, ext FT w2.drew w1 k → (FT k ∨ w2.heap.size ≤ k) ∧ k < w1.heap.size := fun k hk => hk.elim (fun h => ⟨.inl h, by have := hl k (k7 k h).2.1; omega⟩) (fun h => ⟨.inr h.1, h.2⟩)
  have hS : Chg (fun k => k = pw) w1 (w1.setCell ⟨pw, 3, none⟩ v1) := Chg.setCell w1 (F := fun k => k = pw) (p := ⟨pw, 3, none⟩) rfl v1
  have hs2 : w1.heap.size ≤ (w1.setCell ⟨pw, 3, none⟩ v1).heap.size := hS.size
  have hT : Chg (WF FU FT pw) w2 (w1.setCell ⟨pw, 3, none⟩ v1) := (hC.mono (F' := WF FU FT pw) (fun k _ hk => .inr (.inl hk))).then_ hS (fun k hk => .inl (.inr (.inr hk)))
  have hpw : ¬ ext FT w2.drew w1 pw := fun hk => (hx pw hk).1.elim (fun h => (k7 pw h).2.2 rfl) (fun h => by have := hl pw k9; omega)
  have k1' := hC.blk k1 (fun hk => (k7 pw hk).2.2 rfl)
  refine ⟨FU, ext FT w2.drew w1, vU, vS, vH, v1, hq ++ [(a, b, x)], ?_, (hU.chg hC (fun k hk hf => (k6 k hk).2.2.2 hf)).chg hS (fun k hk e => (k6 k hk).2.2.1 e), Kd.Q_step hR (fun k hk hlt => hS.block k hlt (fun e => hpw (e ▸ hk))), by simp [k4], fun j hj => ?_, fun k hk => ⟨(k6 k hk).1, .inl (k6 k hk).2.1, (k6 k hk).2.2.1, fun h => (hx k h).1.elim (k6 k hk).2.2.2 (fun h2 => by have := hl k (k6 k hk).2.1; omega)⟩, fun k hk => ⟨?_, (hx k hk).1.elim (fun h => .inl (k7 k h).2.1) (fun h => .inr ⟨by omega, by have := (hx k hk).2; omega⟩), fun e => hpw (e ▸ hk)⟩, k8, .inl k9, fun k hk => hk.elim (fun h => by have := hl k h; omega) (fun h => h.2), chg_own hB (fun k hk => ?_) hT⟩
  · have := blk_set k1' 3 v1
    simpa using this
  · rw [List.length_append, List.length_singleton] at hj
    rcases Nat.lt_or_ge j Q.length with h | h
    · rw [getD_old hq _ noW (by omega), getD_old Q _ noQ h]
      exact ⟨(k5 j h).1, (k5 j h).2.1, (k5 j h).2.2.next (hD.mono (F' := DR D R) (fun k _ hk => .inl hk)) DR_ext⟩
    · obtain rfl : j = Q.length := by omega
      rw [getD_new Q _ noQ, ← k4, getD_new hq _ noW]
      exact ⟨rfl, rfl, hu.next (hD.mono (F' := DR D R) (fun k _ hk => .inl hk)) DR_ext⟩
  · exact (hx k hk).1.elim (fun h => (k7 k h).1) (fun h => by have := hB.size; omega)
  · rcases hk with hk | hk | hk
    · exact (k6 k hk).1
    · exact (k7 k hk).1
    · rw [hk]; exact k8
set_option maxHeartbeats 16000000 in
set_option maxRecDepth 100000 in
theorem meet_any (w0 w : World) (D R : Nat → Prop) (pw pu pa pb pga pgb Ma Mb : Nat) (Fa Fb : Nat → Prop) (S1 S2 : List (List Int)) (sa sb : Int → Int → Option Int) (hs : List Int) (Q : List Qp) (a b : Int) (x : SlH) (wd : List Int)
    (h : WK w0 w D R pw pu pa pb hs Q) (ha : AuX w0 Fa pa pga S1 sa Ma) (hb : AuX w0 Fb pb pgb S2 sb Mb) (h1 : S1.length ≤ 256) (h2 : S2.length ≤ 256) (hu : Stay (DR D R) w (encH x) wd)
    (hxa : -1 ≤ a ∧ a < S1.length) (hxb : -1 ≤ b ∧ b < S2.length) (hN : hs.length ≤ 1000) (hQ : Q.length ≤ 1000) :
    Calls Tryz.prog 73 #[.pointer (some ⟨pw, 0, none⟩), .agg #[.int .i64 a, .int .i64 b, encH x]] w fun e w' => e = .returned (.tuple #[]) ∧ Chg D w w' ∧
      WK w0 w' (ext D w w') R pw pu pa pb (joinS hs [(numW S1.length S2.length a 0 : Int), (numW S1.length S2.length b S1.length : Int)])
        (if joinS hs [(numW S1.length S2.length a 0 : Int), (numW S1.length S2.length b S1.length : Int)] = hs then Q else Q ++ [(a, b, wd)]) := by
  obtain ⟨xA, xn, xc⟩ := x
  show Calls Tryz.prog 73 #[.pointer (some ⟨pw, 0, none⟩), .agg #[.int .i64 a, .int .i64 b, .slice xA xn xc]] w _
  obtain ⟨pp, hpp⟩ : ∃ b, w.heap.size = b := ⟨_, rfl⟩
  obtain ⟨W, hW⟩ : ∃ W, w.alloc (.cells #[.int .i64 a, .int .i64 b, .slice xA xn xc] 106) = W := ⟨_, rfl⟩
  have hal : Below w.heap.size w W := by rw [← hW]; exact below_alloc (Below.refl _ _) _
  have hlp : ∀ k, D k → k < pp := by rw [← hpp]; exact h.lims
  have hpb : W.heap[pp]? = some (.cells #[.int .i64 a, .int .i64 b, .slice xA xn xc] 106 (0, 0)) := by rw [← hW, ← hpp]; exact heap_alloc_new _ _
  have d0 : W.cell? ⟨pp, 0, none⟩ = some (.int .i64 a) := blk_cellD hpb 0 _ rfl
  have d1 : W.cell? ⟨pp, 1, none⟩ = some (.int .i64 b) := blk_cellD hpb 1 _ rfl
  have d2 : W.cell? ⟨pp, 2, none⟩ = some (.slice xA xn xc) := blk_cellD hpb 2 _ rfl
  obtain ⟨FU, FT, vU, vS, vH, vT, hq, k1, k2, k3, k4, k5, k6, k7, k8, k9, k10, k11⟩ := h
  have k1 := Ow.blk_below k1 hal
  have k2 := k2.below hal
  have k3 := Kd.Q_below k3 hal
  have k11 := bel_trans k11 hal
  have k10 : ∀ k, D k → k < W.heap.size := fun k hk => Nat.lt_of_lt_of_le (k10 k hk) hal.size
  have c0 : W.cell? ⟨pw, 0, none⟩ = some (.pointer (some ⟨pa, 0, none⟩)) := blk_cellD k1 0 _ rfl
  have c2 : W.cell? ⟨pw, 2, none⟩ = some (.pointer (some ⟨pu, 0, none⟩)) := blk_cellD k1 2 _ rfl
  have hA := ha.below k11
  have hB := hb.below k11
  obtain ⟨na, hna⟩ : ∃ k, numW S1.length S2.length a 0 = k := ⟨_, rfl⟩
  obtain ⟨nb, hnb⟩ : ∃ k, numW S1.length S2.length b S1.length = k := ⟨_, rfl⟩
  have HNa := Aside0.mk (fun (W' : World) (hc : Below W.heap.size W W') => by
    have h := number_any pw pu pa pb pga pgb Ma Mb Fa Fb S1 S2 sa sb vT a 0 W' (Ow.blk_below k1 hc) (hA.below hc) (hB.below hc) (by omega) (by omega) ⟨hxa.1, by omega⟩ (by omega)
    rewrite [hna] at h; exact (show Calls Tryz.prog 93 #[.pointer (some ⟨pw, 0, none⟩), .int .i64 a, .int .i64 0] W' (fun e w' => e = .returned (.int .i64 (na : Int)) ∧ Below W'.heap.size W' w') from h))
  have HNb := Aside0.mk (fun (W' : World) (hc : Below W.heap.size W W') => by
    have h := number_any pw pu pa pb pga pgb Ma Mb Fa Fb S1 S2 sa sb vT b S1.length W' (Ow.blk_below k1 hc) (hA.below hc) (hB.below hc) (by omega) (by omega) ⟨hxb.1, by omega⟩ (by omega)
    rewrite [hnb] at h; exact h)
  have HLa := Aside0.mk (fun (W' : World) (hc : Below W.heap.size W W') => alen_any pa pga Ma Fa S1 sa W' (hA.below hc))
  have HJn := Aside0.mk (fun (W' : World) (hc : Below W.heap.size W W') => (join_any pu FU vU vS vH hs [(na : Int), (nb : Int)] (.slice (some ⟨W'.heap.size, 0, none⟩) 2 2) (W'.alloc (.cells #[.int .i64 (na : Int), .int .i64 (nb : Int)] 3)) (k2.below (below_alloc hc _)) (Un.lit_st (F := FU) [(na : Int), (nb : Int)] (by simp) (fun k hk => by have := k10 k (k6 k hk).2.1; have := hc.size; omega)) (by omega) (by simp)))
  rw [hna, hnb]
  obtain ⟨hs', hhs⟩ : ∃ l, joinS hs [(na : Int), (nb : Int)] = l := ⟨_, rfl⟩
  rw [hhs] at HJn ⊢
  obtain ⟨Q2, hQ2⟩ : ∃ l, (if hs' = hs then Q else Q ++ [(a, b, wd)]) = l := ⟨_, rfl⟩
  rw [hQ2]
  have HQ2 := Aside0.mk hQ2
  clear hQ2
  have HFd := Aside0.mk (And.intro (fun k (hk : FU k) => (show w0.heap.size ≤ k ∧ k < W.heap.size ∧ k ≠ pw ∧ k ≠ pp from ⟨(k6 k hk).1, k10 k (k6 k hk).2.1, (k6 k hk).2.2.1, by have := hlp k (k6 k hk).2.1; omega⟩)) (And.intro hlp hal))
  have HCc := Aside0.mk (fun (W' : World) (hc : Chg FU W W') => (show W'.cell? ⟨pp, 0, none⟩ = some (.int .i64 a) ∧ W'.cell? ⟨pp, 1, none⟩ = some (.int .i64 b) ∧ W'.cell? ⟨pw, 0, none⟩ = some (.pointer (some ⟨pa, 0, none⟩)) ∧ W'.cell? ⟨pw, 2, none⟩ = some (.pointer (some ⟨pu, 0, none⟩)) ∧ Chg FU W W' from
    ⟨Un.chg_cell hc (fun hk => (HFd.out.1 _ hk).2.2.2 rfl) d0, Un.chg_cell hc (fun hk => (HFd.out.1 _ hk).2.2.2 rfl) d1, Un.chg_cell hc (fun hk => (HFd.out.1 _ hk).2.2.1 rfl) c0, Un.chg_cell hc (fun hk => (HFd.out.1 _ hk).2.2.1 rfl) c2, hc⟩))
  have Hk := Aside0.mk (And.intro k1 (And.intro k2 (And.intro k3 (And.intro k4 (And.intro k5 (And.intro k6 (And.intro k7 (And.intro k8 (And.intro k9 (And.intro k10 k11))))))))))
  have Hx := Aside0.mk (And.intro hu (And.intro hN (And.intro hQ (And.intro hpb hhs))))
  obtain ⟨la, hla⟩ : ∃ la, S1.length = la := ⟨_, rfl⟩
  rw [hla] at HLa HNb
  have HBr := Below.refl W.heap.size W
  clear k1 k2 k3 k4 k5 k6 k7 k8 k9 k10 k11 hu hN hQ ha hb hA hB h1 h2 hxa hxb hna hnb hla hlp hpb hal hhs d2
  go_enter Tryz.func73, Tryz.ntmps73
  go_wp2_with fail
  try simp only [hpp, hW]
  clear hpp hW
  go_region_held3 (fun W' => W'.cell? ⟨pp, 0, none⟩ = some (.int .i64 a) ∧ W'.cell? ⟨pp, 1, none⟩ = some (.int .i64 b) ∧ W'.cell? ⟨pw, 0, none⟩ = some (.pointer (some ⟨pa, 0, none⟩)) ∧ W'.cell? ⟨pw, 2, none⟩ = some (.pointer (some ⟨pu, 0, none⟩)) ∧ Chg FU W W')
    (first | (exact HCc.out _ HC9.out) | (refine HCc.out _ (Chg.of_below ?_ FU); simp [*]))
    (first
      | (go_at_call 93; (with_reducible refine (HNa.out _ (by simp [*])).mono ?_); rintro e w2 ⟨rfl, r1⟩; have HB9 := bel_trans (wb := W) (by simp [*]) r1; clear r1)
      | (go_at_call 93; (with_reducible refine (HNb.out _ (by simp [*])).mono ?_); rintro e w2 ⟨rfl, r1⟩; have HB9 := bel_trans (wb := W) (by simp [*]) r1; clear r1)
      | (go_at_call 26; (with_reducible refine (HLa.out _ (by simp [*])).mono ?_); rintro e w2 ⟨rfl, rfl⟩)
      | (go_at_call 92; (with_reducible refine (HJn.out _ (by simp [*])).mono ?_); rintro e w2 ⟨rfl, r1, r2⟩; have HU9 := Aside0.mk r1; have HC9 := Aside0.mk (show Chg FU W w2 from (Chg.of_below (w := W) (by simp [*]) FU).then_ r2 (fun k hk => .inl hk)); clear r1 r2)
      | fail)
  rename_i hHeld
  clear hHeld HBr HNa HNb HLa HJn HCc d0 d1 c0 c2
  have hsz := HC9.out.size
  have hwW : w.heap.size ≤ W.heap.size := HFd.out.2.2.size
  have HCD := Aside0.mk (show Chg D w w2 from ((Chg.of_below HFd.out.2.2 D).then_ HC9.out (fun k hk => .inl (Hk.out.2.2.2.2.2.1 k hk).2.1)))
  have HBl := Aside0.mk (chg_own Hk.out.2.2.2.2.2.2.2.2.2.2 (fun k hk => (HFd.out.1 k hk).1) HC9.out)
  have k1 := HC9.out.blk Hk.out.1 (fun hk => (HFd.out.1 _ hk).2.2.1 rfl)
  have k3 := Kd.Q_step Hk.out.2.2.1 (fun k hk hlt => HC9.out.block k hlt (fun hf => (Hk.out.2.2.2.2.2.1 k hf).2.2.2 hk))
  have k5 : ∀ j, j < Q.length → (hq.getD j noW).1 = (Q.getD j noQ).1 ∧ (hq.getD j noW).2.1 = (Q.getD j noQ).2.1 ∧ Stay (DR (ext D w w2) R) w2 (encH (hq.getD j noW).2.2) (Q.getD j noQ).2.2 := fun j hj =>
    ⟨(Hk.out.2.2.2.2.1 j hj).1, (Hk.out.2.2.2.2.1 j hj).2.1, (Hk.out.2.2.2.2.1 j hj).2.2.next (HCD.out.mono (F' := DR D R) (fun k _ hk => .inl hk)) DR_ext⟩
  have k6 := Hk.out.2.2.2.2.2.1
  have k7 := Hk.out.2.2.2.2.2.2.1
  have hlW : ∀ k, D k → k < W.heap.size := Hk.out.2.2.2.2.2.2.2.2.2.1
  by_cases hsame : hs' = hs
  · have HW := Aside0.mk (show WK w0 w2 (ext D w w2) R pw pu pa pb hs' Q2 from by
      rw [← HQ2.out, if_pos hsame]
      exact ⟨FU, FT, vU, vS, vH, vT, hq, k1, HU9.out, k3, Hk.out.2.2.2.1, k5, fun k hk => ⟨(k6 k hk).1, .inl (k6 k hk).2.1, (k6 k hk).2.2⟩, fun k hk => ⟨(k7 k hk).1, .inl (k7 k hk).2.1, (k7 k hk).2.2⟩, Hk.out.2.2.2.2.2.2.2.1, .inl Hk.out.2.2.2.2.2.2.2.2.1, fun k hk => hk.elim (fun h => by have := hlW k h; omega) (fun h => h.2), HBl.out⟩)
    have d : (!decide (hs' = hs)) = false := by rw [decide_eq_true hsame]; rfl
    rw [d]
    clear d k1 k3 k5 k6 k7 hlW hsz hwW hsame
    go_wp2_with fail
    go_end0
    exact ⟨rfl, HCD.out, HW.out⟩
  · have hQe : Q2 = Q ++ [(a, b, wd)] := by rw [← HQ2.out, if_neg hsame]
    have HQe := Aside0.mk hQe
    have d : (!decide (hs' = hs)) = true := by rw [decide_eq_false hsame]; rfl
    rw [d]
    have hpb := HC9.out.blk Hx.out.2.2.2.1 (fun hk => (HFd.out.1 _ hk).2.2.2 rfl)
    have d0 : w2.cell? ⟨pp, 0, none⟩ = some (.int .i64 a) := blk_cellD hpb 0 _ rfl
    have d1 : w2.cell? ⟨pp, 1, none⟩ = some (.int .i64 b) := blk_cellD hpb 1 _ rfl
    have d2 : w2.cell? ⟨pp, 2, none⟩ = some (.slice xA xn xc) := blk_cellD hpb 2 _ rfl
    have c3 : w2.cell? ⟨pw, 3, none⟩ = some vT := blk_cellD k1 3 _ rfl
    have z3 : w2.frozen? ⟨pw, 3, none⟩ = false := blk_frozen k1 3
    obtain ⟨AT, cT, eT, -, -⟩ := Kd.Q_reads k3
    have hqn : hq.length ≤ 1000 := by have := Hk.out.2.2.2.1; have := Hx.out.2.2.1; omega
    have HK := Aside0.mk (And.intro k1 (And.intro k3 (And.intro k5 (And.intro k6 (And.intro k7 (And.intro hlW (And.intro hsz hwW)))))))
    obtain ⟨nq, hnq⟩ : ∃ n, hq.length = n := ⟨_, rfl⟩
    rw [hnq] at eT
    subst eT
    have Hn := Aside0.mk (And.intro hnq hqn)
    have c3' : (w2.alloc (.cells #[.int .i64 a, .int .i64 b, .slice xA xn xc] 106)).cell? ⟨pw, 3, none⟩ = some (.slice AT nq cT) := bel_cell (below_alloc (Below.refl _ _) _) c3
    clear d k1 k3 k5 k6 k7 hlW hsz hwW hsame hpb hqn hnq hQe
    go_wp2_with fail
    go_region_law (refine appW_step (W := w2.drew) (by rfl) (.tmp 27) (.tmp 29) (by rfl) (.slice AT nq cT) hq (a, b, (xA, xn, xc)) (by rfl) (by rfl) (Kd.Q_below HK.out.2.1 (below_drew (Below.refl _ _))) (by have := Hn.out.2; omega) ?_; intro v1 w1 ho1 hg1 hc1; obtain ⟨A1, c1, hv1, _, _⟩ := Kd.Q_reads ho1; obtain ⟨m1, hm1⟩ : ∃ m, (hq ++ [(a, b, (xA, xn, xc))]).length = m := ⟨_, rfl⟩; rw [hm1] at hv1; subst hv1; have hb3 := Aside0.mk (hc1.blk (show w2.drew.heap[pw]? = _ from HK.out.1) (fun hk => (HK.out.2.2.2.2.1 _ hk).2.2 rfl)); have z3' : w1.frozen? ⟨pw, 3, none⟩ = false := blk_frozen hb3.out 3; have e3 : w1.cell? ⟨pw, 3, none⟩ = some (.slice AT nq cT) := blk_cell hb3.out 3; have HR3 := Aside0.mk ho1; have Hg3 := Aside0.mk hc1; have Hm1 := Aside0.mk hm1; clear ho1 hg1 hc1 hm1)
    all_goals
      have HCn := Aside0.mk (show Chg D w (w1.setCell ⟨pw, 3, none⟩ (.slice A1 m1 c1)) from (HCD.out.then_ ((Chg.of_below (below_drew (Below.refl _ _)) FT).then_ Hg3.out (fun k hk => .inl hk)) (fun k hk => .inl (HK.out.2.2.2.2.1 k hk).2.1)).then_ (Chg.setCell w1 (F := fun k => k = pw) (p := ⟨pw, 3, none⟩) rfl _) (fun k hk => .inl (by rw [hk]; exact Hk.out.2.2.2.2.2.2.2.2.1)))
      have HWn := Aside0.mk (show WK w0 (w1.setCell ⟨pw, 3, none⟩ (.slice A1 m1 c1)) (ext D w (w1.setCell ⟨pw, 3, none⟩ (.slice A1 m1 c1))) R pw pu pa pb hs' Q2 from by
        rw [HQe.out]
        exact wk_pushed HK.out.1 HU9.out Hk.out.2.2.2.1 Hk.out.2.2.2.2.1 HK.out.2.2.2.1 HK.out.2.2.2.2.1 Hk.out.2.2.2.2.2.2.2.1 Hk.out.2.2.2.2.2.2.2.2.1 (fun k hk => Nat.lt_of_lt_of_le (HK.out.2.2.2.2.2.1 k hk) HK.out.2.2.2.2.2.2.1) (Nat.le_trans HK.out.2.2.2.2.2.2.2 HK.out.2.2.2.2.2.2.1) HBl.out
          Hx.out.1 HCn.out HR3.out Hg3.out)
      clear z3' e3 c3 c3' z3 d0 d1 d2
      go_wp2_with fail
      go_end0
      exact ⟨rfl, HCn.out, HWn.out⟩
end Go.Proofs.YtkpadjhdneiniaaGreatDoor.Am
end

/- Eh: The walker of package equal: fields. -/
section
namespace Go.Proofs.YtkpadjhdneiniaaGreatDoor.Am
set_option linter.unusedVariables false
open Go.RowKit Go.Proofs.YtkpadjhdneiniaaGreatDoorW.PrintWords Go.Proofs.YtkpadjhdneiniaaGreatDoorW.PrintLast Go.Proofs.YtkpadjhdneiniaaGreatDoorW.PrintMore Go.Maps
open Go.Proofs.YtkpadjhdneiniaaGreatDoor.Base Go.Proofs.YtkpadjhdneiniaaGreatDoor.Map Go.Proofs.YtkpadjhdneiniaaGreatDoor.Sl Go.Proofs.YtkpadjhdneiniaaGreatDoor.Ow Go.Proofs.YtkpadjhdneiniaaGreatDoor.Se Go.Proofs.YtkpadjhdneiniaaGreatDoor.Gr Go.Proofs.YtkpadjhdneiniaaGreatDoor.Rf Go.Proofs.YtkpadjhdneiniaaGreatDoor.Tx Go.Proofs.YtkpadjhdneiniaaGreatDoor.Au



open Go.Proofs.YtkpadjhdneiniaaGreatDoor.Eb
open Go.Proofs.YtkpadjhdneiniaaGreatDoor.Un (Uni joinS)

/-- the fields that lead from either state -/
def fldW (E : List GE) (S1 S2 : List (List Int)) (a b : Int) : List Int := srtL (fldG E S1 a ++ fldG E S2 b)
set_option maxHeartbeats 16000000 in
set_option maxRecDepth 100000 in
theorem wfields_any (pw pu pa pb pga pgb Ma Mb : Nat) (Fa Fb : Nat → Prop) (S1 S2 : List (List Int)) (sa sb : Int → Int → Option Int) (T : List ByteArray) (E : List GE) (vT : Value) (a b : Int) (xA : Option Addr) (xn xc : Nat) (w : World)
    (hb : w.heap[pw]? = some (.cells #[.pointer (some ⟨pa, 0, none⟩), .pointer (some ⟨pb, 0, none⟩), .pointer (some ⟨pu, 0, none⟩), vT] 103 (0, 0)))
    (ha : AuX w Fa pa pga S1 sa Ma) (hb2 : AuX w Fb pb pgb S2 sb Mb) (hga : GA w pga T E) (hgb : GA w pgb T E)
    (h1 : ∀ s ∈ S1, s.length ≤ 1000 ∧ ∀ y ∈ s, ok64 y) (h2 : ∀ s ∈ S2, s.length ≤ 1000 ∧ ∀ y ∈ s, ok64 y) (hE : E.length ≤ 1000) (hok : ∀ x f y, (x, f, y) ∈ E → ok64 x) :
    Calls Tryz.prog 95 #[.pointer (some ⟨pw, 0, none⟩), .agg #[.int .i64 a, .int .i64 b, .slice xA xn xc]] w fun e w' => ∃ v, e = .returned v ∧ OwI w' w.heap.size v (fldW E S1 S2 a b) ∧ Below w.heap.size w w' := by
  obtain ⟨pp, hpp⟩ : ∃ b, w.heap.size = b := ⟨_, rfl⟩
  obtain ⟨W, hW⟩ : ∃ W, w.alloc (.cells #[.int .i64 a, .int .i64 b, .slice xA xn xc] 106) = W := ⟨_, rfl⟩
  have hal : Below w.heap.size w W := by rw [← hW]; exact below_alloc (Below.refl _ _) _
  have hpb : W.heap[pp]? = some (.cells #[.int .i64 a, .int .i64 b, .slice xA xn xc] 106 (0, 0)) := by rw [← hW, ← hpp]; exact heap_alloc_new _ _
  have k1 := Ow.blk_below hb hal
  have d0 : W.cell? ⟨pp, 0, none⟩ = some (.int .i64 a) := blk_cellD hpb 0 _ rfl
  have d1 : W.cell? ⟨pp, 1, none⟩ = some (.int .i64 b) := blk_cellD hpb 1 _ rfl
  have c0 : W.cell? ⟨pw, 0, none⟩ = some (.pointer (some ⟨pa, 0, none⟩)) := blk_cellD k1 0 _ rfl
  have c1 : W.cell? ⟨pw, 1, none⟩ = some (.pointer (some ⟨pb, 0, none⟩)) := blk_cellD k1 1 _ rfl
  have HFa := Aside0.mk (fun (W' : World) (hc : Below W.heap.size W W') => afields_any pa pga Ma Fa S1 sa T E a W' ((ha.below hal).below hc) ((hga.below hal).below hc) h1 hE hok)
  have HFb := Aside0.mk (fun (W' : World) (hc : Below W.heap.size W W') => afields_any pb pgb Mb Fb S2 sb T E b W' ((hb2.below hal).below hc) ((hgb.below hal).below hc) h2 hE hok)
  have Hl := Aside0.mk (And.intro (show (fldG E S1 a).length ≤ 1000 by unfold fldG; split; exact Nat.le_trans (fields_len E _) hE; simp) (show (fldG E S2 b).length ≤ 1000 by unfold fldG; split; exact Nat.le_trans (fields_len E _) hE; simp))
  obtain ⟨l, hl⟩ : ∃ l, fldW E S1 S2 a b = l := ⟨_, rfl⟩
  rw [hl]
  unfold fldW at hl
  obtain ⟨l1, hl1⟩ : ∃ l, fldG E S1 a = l := ⟨_, rfl⟩
  obtain ⟨l2, hl2⟩ : ∃ l, fldG E S2 b = l := ⟨_, rfl⟩
  rw [hl1] at hl HFa Hl
  rw [hl2] at hl HFb Hl
  have Hll := Aside0.mk hl
  have Hal := Aside0.mk hal
  have HBr := Below.refl W.heap.size W
  clear hb ha hb2 hga hgb h1 h2 hE hok hl1 hl2 hpb k1 hal hl
  go_enter Tryz.func95, Tryz.ntmps95
  go_wp2_with fail
  try simp only [hpp, hW]
  have Hpp := Aside0.mk hpp
  clear hpp hW
  go_region_held3 (fun W' => W'.cell? ⟨pp, 0, none⟩ = some (.int .i64 a) ∧ W'.cell? ⟨pp, 1, none⟩ = some (.int .i64 b) ∧ W'.cell? ⟨pw, 0, none⟩ = some (.pointer (some ⟨pa, 0, none⟩)) ∧ W'.cell? ⟨pw, 1, none⟩ = some (.pointer (some ⟨pb, 0, none⟩)) ∧ Below W.heap.size W W')
    (first | (refine ⟨pw_cell_below (w := W) ?_ d0, pw_cell_below (w := W) ?_ d1, pw_cell_below (w := W) ?_ c0, pw_cell_below (w := W) ?_ c1, ?_⟩ <;> simp [*]) | go_keep)
    (first
      | (go_at_call 27; (with_reducible refine (HFa.out _ (by simp [*])).mono ?_); rintro e w2 ⟨v1, rfl, r1, r2⟩; have HX1 := Aside0.mk (r1.lower (base' := W.heap.size) (by have := HB9.size; omega)); have HB9 := bel_trans (wb := W) (by simp [*]) r2; clear r1 r2)
      | (go_at_call 27; (with_reducible refine (HFa.out _ (by simp [*])).mono ?_); rintro e w2 ⟨v1, rfl, r1, r2⟩; have HX1 := Aside0.mk (r1.lower (base' := W.heap.size) (Nat.le_refl _)); have HB9 := bel_trans (wb := W) (by simp [*]) r2; clear r1 r2)
      | (go_at_call 27; (with_reducible refine (HFb.out _ (by simp [*])).mono ?_); rintro e w2 ⟨v2, rfl, r1, r2⟩; have HX1 := Aside0.mk (HX1.out.below r2); have HX2 := Aside0.mk r1.toV; have HB9 := bel_trans (wb := W) (by simp [*]) r2; clear r1 r2)
      | (refine app_stepB (wb := W) (by rfl) _ _ (by rfl) _ _ l1 l2 (by rfl) (by rfl) HX1.out HX2.out (by simp [*]) (by have := Hl.out; omega) ?_; intro v1 w1 ho1 hb1 hg1 hat1; have HX3 := Aside0.mk ho1; have HB9 := hb1; clear ho1 hb1 hg1 hat1)
      | fail)
  rename_i hHeld
  have HO := Aside0.mk (OwF.of_own (F := fun k => W.heap.size ≤ k) HX3.out (fun k hk _ => hk))
  have HBq := Aside0.mk HB9
  clear hHeld HB9 HBr HX1 HX2 HX3 d0 d1 c0 c1 HFa HFb
  go_wp2_with fail
  refine (sort_own _ _ _ _ HO.out (by rw [List.length_append]; have := Hl.out; omega)).mono ?_
  rintro e w3 ⟨rfl, r1, r2⟩
  have HO2 := Aside0.mk r1
  have HB2 := Aside0.mk (chg_own HBq.out (fun k hk => hk) r2)
  clear r1 r2
  go_wp2_with fail
  refine (compact_own _ _ _ w3 HO2.out).mono ?_
  rintro e w4 ⟨v4, rfl, r1, r2⟩
  rw [srt_compact, Hll.out] at r1
  have HO3 := Aside0.mk (OwF.own r1 (base := w.heap.size) (fun k hk => by have := Hal.out.size; omega))
  have HB3 := Aside0.mk (bel_trans Hal.out (chg_own HB2.out (fun k hk => hk) r2))
  clear r1 r2
  go_wp2_with fail
  go_ret
  exact ⟨_, rfl, HO3.out, HB3.out⟩
end Go.Proofs.YtkpadjhdneiniaaGreatDoor.Am
end

/- Ei: The walker of package equal, plainly. -/
section
namespace Go.Proofs.YtkpadjhdneiniaaGreatDoor.Am
set_option linter.unusedVariables false
open Go.RowKit Go.Proofs.YtkpadjhdneiniaaGreatDoorW.PrintWords Go.Proofs.YtkpadjhdneiniaaGreatDoorW.PrintLast Go.Proofs.YtkpadjhdneiniaaGreatDoorW.PrintMore Go.Maps
open Go.Proofs.YtkpadjhdneiniaaGreatDoor.Base Go.Proofs.YtkpadjhdneiniaaGreatDoor.Map Go.Proofs.YtkpadjhdneiniaaGreatDoor.Sl Go.Proofs.YtkpadjhdneiniaaGreatDoor.Ow Go.Proofs.YtkpadjhdneiniaaGreatDoor.Se Go.Proofs.YtkpadjhdneiniaaGreatDoor.Gr Go.Proofs.YtkpadjhdneiniaaGreatDoor.Rf Go.Proofs.YtkpadjhdneiniaaGreatDoor.Tx Go.Proofs.YtkpadjhdneiniaaGreatDoor.Au



open Go.Proofs.YtkpadjhdneiniaaGreatDoor.Eb
open Go.Proofs.YtkpadjhdneiniaaGreatDoor.Un (Uni joinS rngL rng_rd)

/-- the pairs that have been joined -/
def JQ (la lb : Nat) (Q : List Qp) (x y : Nat) : Prop := ∃ q, q ∈ Q ∧ x = numW la lb q.1 0 ∧ y = numW la lb q.2.1 la
/-- a pair of states: their sets, the word -/
def prQ (S1 S2 : List (List Int)) (q : Qp) : Pr := (atG S1 q.1, atG S2 q.2.1, q.2.2)
/-- a number's set -/
def setN (S1 S2 : List (List Int)) (k : Nat) : List Int := if k < S1.length then S1.getD k [] else if k < S1.length + S2.length then S2.getD (k - S1.length) [] else []
structure WI (T : List ByteArray) (E : List GE) (o x : Int) (S1 S2 : List (List Int)) (Q : List Qp) (i : Nat) (dn : List Int) (hs : List Int) : Prop where
  bfs : Bfs T E [o] [x] (Q.map (prQ S1 S2)) i dn
  uni : UnI (S1.length + S2.length + 1) (JQ S1.length S2.length Q) hs Q.length
  rng : ∀ q ∈ Q, (-1 ≤ q.1 ∧ q.1 < S1.length) ∧ (-1 ≤ q.2.1 ∧ q.2.1 < S2.length)
  len : ∀ k, k < Q.length → (Q.getD k noQ).2.2.length ≤ k
  ok : ∀ q ∈ Q, ∀ f ∈ q.2.2, ok64 f
theorem getD_map {α β : Type} (f : α → β) (l : List α) {k : Nat} (hk : k < l.length) (d : α) (d' : β) : (l.map f).getD k d' = f (l.getD k d) := by
  rw [List.getD_eq_getElem?_getD, List.getD_eq_getElem?_getD, List.getElem?_map, List.getElem?_eq_getElem hk]; rfl
theorem numW_lt {la lb : Nat} {a : Int} (h : -1 ≤ a ∧ a < la) : numW la lb a 0 < la + lb + 1 := by unfold numW; split <;> omega
theorem numW_lt2 {la lb : Nat} {b : Int} (h : -1 ≤ b ∧ b < lb) : numW la lb b la < la + lb + 1 := by unfold numW; split <;> omega
theorem setN_a {S1 S2 : List (List Int)} {a : Int} (h : -1 ≤ a ∧ a < S1.length) : setN S1 S2 (numW S1.length S2.length a 0) = atG S1 a := by
  unfold numW
  by_cases e : a = -1
  · rw [if_pos e, e, atG_out (fun h => by omega)]
    unfold setN; rw [if_neg (by omega), if_neg (by omega)]
  · obtain ⟨k, rfl⟩ : ∃ k : Nat, a = (k : Int) := ⟨a.toNat, by omega⟩
    rw [if_neg e, atG_nat (by omega)]
    unfold setN; rw [Int.toNat_natCast, Nat.zero_add, if_pos (by omega)]
theorem setN_b {S1 S2 : List (List Int)} {b : Int} (h : -1 ≤ b ∧ b < S2.length) : setN S1 S2 (numW S1.length S2.length b S1.length) = atG S2 b := by
  unfold numW
  by_cases e : b = -1
  · rw [if_pos e, e, atG_out (fun h => by omega)]
    unfold setN; rw [if_neg (by omega), if_neg (by omega)]
  · obtain ⟨k, rfl⟩ : ∃ k : Nat, b = (k : Int) := ⟨b.toNat, by omega⟩
    rw [if_neg e, atG_nat (by omega)]
    unfold setN; rw [Int.toNat_natCast, if_neg (by omega), if_pos (by omega), Nat.add_sub_cancel_left]
/-- a step between states is a step between sets -/
theorem at_step {n : Nat} {E : List GE} {o : Int} {S : List (List Int)} (hR : RightG n E) (h0 : 0 ≤ o) (h1 : o < n) (hS : statesG E n o = S) {a : Int} (ha : -1 ≤ a ∧ a < S.length) (f : Int) :
    (-1 ≤ (stepG E S a f).getD (-1) ∧ (stepG E S a f).getD (-1) < S.length) ∧ atG S ((stepG E S a f).getD (-1)) = nextG E f (atG S a) := by
  by_cases e : a = -1
  · have e2 : stepG E S a f = none := by unfold stepG; rw [if_neg (fun h => by omega)]
    rw [e2, e]
    exact ⟨⟨by simp, by simp; omega⟩, by
      show atG S (-1) = nextG E f (atG S (-1))
      rw [atG_out (L := S) (k := -1) (fun h => by omega), Au.next_nil]⟩
  · obtain ⟨k, rfl⟩ : ∃ k : Nat, a = (k : Int) := ⟨a.toNat, by omega⟩
    have hk : k < S.length := by omega
    rw [atG_nat hk]
    by_cases hf : f ∈ fieldsG E (S.getD k [])
    · have hm : nextG E f (S.getD k []) ∈ S := by
        have := states_next hR h0 h1 (s := S.getD k []) (by rw [hS]; exact getD_mem hk) hf
        rw [hS] at this; exact this
      have e2 : stepG E S (k : Int) f = some (ledTo E S (S.getD k []) f) := by
        unfold stepG
        rw [Int.toNat_natCast, if_pos ⟨by omega, by omega, hf⟩]
      rw [e2]
      have hl := List.idxOf_lt_length_of_mem hm
      refine ⟨⟨?_, ?_⟩, ?_⟩
      · show (-1 : Int) ≤ ((S.idxOf (nextG E f (S.getD k [])) : Nat) : Int); omega
      · exact Int.ofNat_lt.2 hl
      · show atG S ((S.idxOf (nextG E f (S.getD k [])) : Nat) : Int) = _
        rw [atG_nat hl, getD_idx hm]
    · have e2 : stepG E S (k : Int) f = none := by
        unfold stepG
        rw [Int.toNat_natCast, if_neg (fun h => hf h.2.2)]
      rw [e2]
      exact ⟨⟨by simp, by simp; omega⟩, by
      show atG S (-1) = _
      rw [atG_out (L := S) (k := -1) (fun h => by omega), Au.next_none hf]⟩
theorem fldG_none {E : List GE} {S : List (List Int)} {a : Int} {f : Int} (h : f ∉ fldG E S a) : nextG E f (atG S a) = [] := by
  unfold fldG at h
  by_cases e : 0 ≤ a ∧ a < S.length
  · rw [if_pos e] at h; exact Au.next_none h
  · rw [atG_out e]; exact Au.next_nil E f
section
variable {T : List ByteArray} {E : List GE} {n : Nat} {o x : Int} {S1 S2 : List (List Int)} {Q : List Qp} {i : Nat} {dn hs : List Int}
theorem WI.small (h : WI T E o x S1 S2 Q i dn hs) : Q.length ≤ S1.length + S2.length + 1 := by have := h.uni.cnt; omega
theorem JQ_snoc (la lb : Nat) (Q : List Qp) (q : Qp) : (fun x y => JQ la lb Q x y ∨ (x = numW la lb q.1 0 ∧ y = numW la lb q.2.1 la)) = JQ la lb (Q ++ [q]) := by
  funext x y
  apply propext
  constructor
  · rintro (⟨p, h1, h2⟩ | h)
    · exact ⟨p, List.mem_append.2 (.inl h1), h2⟩
    · exact ⟨q, by simp, h⟩
  · rintro ⟨p, h1, h2⟩
    rcases List.mem_append.1 h1 with h1 | h1
    · exact .inl ⟨p, h1, h2⟩
    · rw [List.mem_singleton] at h1; subst h1; exact .inr h2
theorem WI.start (T : List ByteArray) (E : List GE) (hR : RightG n E) (h0 : 0 ≤ o) (h1 : o < n) (g0 : 0 ≤ x) (g1 : x < n) (hS1 : statesG E n o = S1) (hS2 : statesG E n x = S2) :
    joinS (rngL (S1.length + S2.length + 1)) [(numW S1.length S2.length 0 0 : Int), (numW S1.length S2.length 0 S1.length : Int)] ≠ rngL (S1.length + S2.length + 1) ∧
    WI T E o x S1 S2 [(0, 0, [])] 0 [] (joinS (rngL (S1.length + S2.length + 1)) [(numW S1.length S2.length 0 0 : Int), (numW S1.length S2.length 0 S1.length : Int)]) := by
  have q1 : [[o]] <+: S1 := by rw [← hS1]; exact (states_inv hR h0 h1).head
  have q2 : [[x]] <+: S2 := by rw [← hS2]; exact (states_inv hR g0 g1).head
  have l1 : 0 < S1.length := by have := q1.length_le; simp at this; omega
  have l2 : 0 < S2.length := by have := q2.length_le; simp at this; omega
  have a1 : atG S1 0 = [o] := by
    rw [show (0 : Int) = ((0 : Nat) : Int) from rfl, atG_nat l1, List.getD_eq_getElem?_getD, pre_get q1 (by simp)]; rfl
  have a2 : atG S2 0 = [x] := by
    rw [show (0 : Int) = ((0 : Nat) : Int) from rfl, atG_nat l2, List.getD_eq_getElem?_getD, pre_get q2 (by simp)]; rfl
  have n1 : numW S1.length S2.length 0 0 = 0 := by unfold numW; rw [if_neg (by omega)]; rfl
  have n2 : numW S1.length S2.length 0 S1.length = S1.length := by unfold numW; rw [if_neg (by omega)]; rfl
  have hU := (UnI.start (S1.length + S2.length + 1)).join (a := numW S1.length S2.length 0 0) (b := numW S1.length S2.length 0 S1.length) (by rw [n1]; omega) (by rw [n2]; omega) (by
    rw [n1, n2, rng_rd _ _ (by omega), rng_rd _ _ (by omega)]; omega)
  refine ⟨hU.1, ⟨?_, ?_, ?_, ?_, ?_⟩⟩
  · have := Bfs.start T E [o] [x]
    have e : List.map (prQ S1 S2) [(0, 0, [])] = [([o], [x], [])] := by
      show [prQ S1 S2 (0, 0, [])] = _
      unfold prQ; rw [a1, a2]
    rw [e]; exact this
  · have e := JQ_snoc S1.length S2.length [] (0, 0, [])
    have e2 : (fun x y => JQ S1.length S2.length [] x y ∨ (x = numW S1.length S2.length 0 0 ∧ y = numW S1.length S2.length 0 S1.length)) = (fun x y => False ∨ (x = numW S1.length S2.length 0 0 ∧ y = numW S1.length S2.length 0 S1.length)) := by
      funext x y; apply propext
      exact ⟨fun h => h.imp (fun ⟨q, hq, _⟩ => by cases hq) id, fun h => h.imp (fun h => h.elim) id⟩
    have e3 : (fun x y => False ∨ (x = numW S1.length S2.length 0 0 ∧ y = numW S1.length S2.length 0 S1.length)) = JQ S1.length S2.length [(0, 0, [])] := e2.symm.trans e
    have h2 := hU.2
    rw [e3] at h2
    exact h2
  · intro q hq; rw [List.mem_singleton] at hq; subst hq; exact ⟨⟨by simp, by simp; omega⟩, ⟨by simp, by simp; omega⟩⟩
  · intro k hk; have : k = 0 := by simp at hk; omega
    subst this; simp
  · intro q hq; rw [List.mem_singleton] at hq; subst hq; intro f hf; cases hf
theorem WI.meet (hR : RightG n E) (h0 : 0 ≤ o) (h1 : o < n) (g0 : 0 ≤ x) (g1 : x < n) (hS1 : statesG E n o = S1) (hS2 : statesG E n x = S2) (h : WI T E o x S1 S2 Q i dn hs) (hi : i < Q.length) {f : Int} (hf : ∀ g ∈ dn, g < f) (hok : ok64 f)
    {a b a' b' : Int} {wd : List Int} (hq : Q.getD i noQ = (a, b, wd)) (ha' : (stepG E S1 a f).getD (-1) = a') (hb' : (stepG E S2 b f).getD (-1) = b') :
    WI T E o x S1 S2 (if joinS hs [(numW S1.length S2.length a' 0 : Int), (numW S1.length S2.length b' S1.length : Int)] = hs then Q else Q ++ [(a', b', wd ++ [f])]) i (dn ++ [f]) (joinS hs [(numW S1.length S2.length a' 0 : Int), (numW S1.length S2.length b' S1.length : Int)]) := by
  have hm : (a, b, wd) ∈ Q := by rw [← hq]; exact getD_mem hi
  obtain ⟨ra, rb⟩ := h.rng _ hm
  obtain ⟨ra', ea⟩ := at_step hR h0 h1 hS1 ra f
  obtain ⟨rb', eb⟩ := at_step hR g0 g1 hS2 rb f
  simp only at ra' ea rb' eb
  rw [ha'] at ra' ea
  rw [hb'] at rb' eb
  have hi' : i < (Q.map (prQ S1 S2)).length := by rw [List.length_map]; exact hi
  have hp : (Q.map (prQ S1 S2)).getD i noP = (atG S1 a, atG S2 b, wd) := by rw [getD_map _ _ hi noQ noP, hq]; rfl
  by_cases e : rd hs (numW S1.length S2.length a' 0) = rd hs (numW S1.length S2.length b' S1.length)
  · obtain ⟨j1, j2⟩ := h.uni.same (numW_lt ra') (numW_lt2 rb') e
    rw [j1, if_pos rfl]
    refine { h with bfs := h.bfs.old hi' hf fun t hd => ?_ }
    rw [hp] at hd
    have hd : tyG T (ledS E (setN S1 S2 (numW S1.length S2.length a' 0)) t) ≠ tyG T (ledS E (setN S1 S2 (numW S1.length S2.length b' S1.length)) t) := by
      rw [setN_a ra', setN_b rb', ea, eb]; exact hd
    obtain ⟨u, v, ⟨q, hqm, rfl, rfl⟩, hne⟩ := Cl.apart (L := fun k => tyG T (ledS E (setN S1 S2 k) t)) j2 hd
    obtain ⟨k, hk, rfl⟩ := List.getElem_of_mem hqm
    have hkq : Q.getD k noQ = Q[k] := by rw [List.getD_eq_getElem?_getD, List.getElem?_eq_getElem hk]; rfl
    refine ⟨k, by rw [List.length_map]; exact hk, ?_⟩
    rw [getD_map _ _ hk noQ noP, hkq]
    have hr := h.rng _ hqm
    simp only [setN_a hr.1, setN_b hr.2] at hne
    exact hne
  · obtain ⟨j1, j2⟩ := h.uni.join (numW_lt ra') (numW_lt2 rb') e
    rw [if_neg j1]
    refine ⟨?_, ?_, ?_, ?_, ?_⟩
    · have := h.bfs.new hi' hf
      rw [hp] at this
      rw [List.map_append]
      show Bfs T E [o] [x] (Q.map (prQ S1 S2) ++ [(atG S1 a', atG S2 b', wd ++ [f])]) i (dn ++ [f])
      rw [ea, eb]; exact this
    · rw [JQ_snoc S1.length S2.length Q (a', b', wd ++ [f])] at j2
      rw [List.length_append, List.length_singleton]; exact j2
    · intro q hq; rcases List.mem_append.1 hq with hq | hq
      · exact h.rng q hq
      · rw [List.mem_singleton] at hq; subst hq; exact ⟨ra', rb'⟩
    · intro k hk
      rw [List.length_append, List.length_singleton] at hk
      rcases Nat.lt_or_ge k Q.length with hk' | hk'
      · rw [getD_old Q _ noQ hk']; exact h.len k hk'
      · obtain rfl : k = Q.length := by omega
        rw [getD_new Q _ noQ]
        have := h.len i hi
        rw [hq] at this
        show (wd ++ [f]).length ≤ _
        rw [List.length_append, List.length_singleton]
        have : wd.length ≤ i := this
        omega
    · intro q hq; rcases List.mem_append.1 hq with hq | hq
      · exact h.ok q hq
      · rw [List.mem_singleton] at hq; subst hq
        intro g hg
        rcases List.mem_append.1 hg with hg | hg
        · exact h.ok _ hm g hg
        · rw [List.mem_singleton] at hg; subst hg; exact hok
theorem WI.next (h : WI T E o x S1 S2 Q i (fldW E S1 S2 (Q.getD i noQ).1 (Q.getD i noQ).2.1) hs) (hi : i < Q.length) (hs' : ¬ Df T E (atG S1 (Q.getD i noQ).1) (atG S2 (Q.getD i noQ).2.1) []) : WI T E o x S1 S2 Q (i + 1) [] hs := by
  have hp : (Q.map (prQ S1 S2)).getD i noP = prQ S1 S2 (Q.getD i noQ) := getD_map _ _ hi noQ noP
  refine { h with bfs := h.bfs.next (by rw [List.length_map]; exact hi) (by rw [hp]; exact hs') fun f hf => ?_ }
  rw [hp]
  have hf' : f ∉ fldG E S1 (Q.getD i noQ).1 ∧ f ∉ fldG E S2 (Q.getD i noQ).2.1 := ⟨fun hm => hf (mem_srtL.2 (List.mem_append.2 (.inl hm))), fun hm => hf (mem_srtL.2 (List.mem_append.2 (.inr hm)))⟩
  show nextG E f (atG S1 _) = nextG E f (atG S2 _)
  rw [fldG_none hf'.1, fldG_none hf'.2]
theorem WI.least (h : WI T E o x S1 S2 Q i dn hs) (hi : i < Q.length) (hd : Df T E (atG S1 (Q.getD i noQ).1) (atG S2 (Q.getD i noQ).2.1) []) : Least (Df T E [o] [x]) (Q.getD i noQ).2.2 := by
  have hp : (Q.map (prQ S1 S2)).getD i noP = prQ S1 S2 (Q.getD i noQ) := getD_map _ _ hi noQ noP
  have := h.bfs.least (by rw [List.length_map]; exact hi) (by rw [hp]; exact hd)
  rw [hp] at this; exact this
theorem WI.none (h : WI T E o x S1 S2 Q Q.length dn hs) : ∀ v, ¬ Df T E [o] [x] v := by
  have := h.bfs
  have e : Q.length = (Q.map (prQ S1 S2)).length := (List.length_map _).symm
  rw [e] at this
  exact this.none
end
end Go.Proofs.YtkpadjhdneiniaaGreatDoor.Am
end

/- Ej: The walker of package equal: apart. -/
section
namespace Go.Proofs.YtkpadjhdneiniaaGreatDoor.Am
set_option linter.unusedVariables false
open Go.RowKit Go.Proofs.YtkpadjhdneiniaaGreatDoorW.PrintWords Go.Proofs.YtkpadjhdneiniaaGreatDoorW.PrintLast Go.Proofs.YtkpadjhdneiniaaGreatDoorW.PrintMore Go.Maps
open Go.Proofs.YtkpadjhdneiniaaGreatDoor.Base Go.Proofs.YtkpadjhdneiniaaGreatDoor.Map Go.Proofs.YtkpadjhdneiniaaGreatDoor.Sl Go.Proofs.YtkpadjhdneiniaaGreatDoor.Ow Go.Proofs.YtkpadjhdneiniaaGreatDoor.Se Go.Proofs.YtkpadjhdneiniaaGreatDoor.Gr Go.Proofs.YtkpadjhdneiniaaGreatDoor.Rf Go.Proofs.YtkpadjhdneiniaaGreatDoor.Tx Go.Proofs.YtkpadjhdneiniaaGreatDoor.Au



open Go.Proofs.YtkpadjhdneiniaaGreatDoor.Eb
open Go.Proofs.YtkpadjhdneiniaaGreatDoor.Un (Uni joinS)

theorem i106 : ∃ i, Tryz.prog.info? 106 = some i ∧ i.size = 3 := by
  obtain ⟨i0, hi, hz⟩ := Option.map_eq_some_iff.1 info106
  simp only [Prod.mk.injEq] at hz
  exact ⟨i0, hi, hz.2.1⟩
/-- todo[0], todo[1:] -/
theorem WK.first {w0 w : World} {D R : Nat → Prop} {pw pu pa pb : Nat} {hs : List Int} {Q : List Qp} (h : WK w0 w D R pw pu pa pb hs Q) (h0 : 0 < Q.length) :
    ∃ ad c A' u, w.heap[pw]? = some (.cells #[.pointer (some ⟨pa, 0, none⟩), .pointer (some ⟨pb, 0, none⟩), .pointer (some ⟨pu, 0, none⟩), .slice (some ad) Q.length c] 103 (0, 0)) ∧
      w.cell? (ad.add (0 * 3)) = some (.int .i64 (Q.getD 0 noQ).1) ∧ w.cell? ⟨(ad.add (0 * 3)).block, (ad.add (0 * 3)).off + 1, none⟩ = some (.int .i64 (Q.getD 0 noQ).2.1) ∧ w.cell? ⟨(ad.add (0 * 3)).block, (ad.add (0 * 3)).off + 2, none⟩ = some (encH u) ∧
      Stay (DR D R) w (encH u) (Q.getD 0 noQ).2.2 ∧
      (∀ W : World, (Instr.slice 101 (.slice (some ad) Q.length c) (some (.int .i64 1)) none none).run Tryz.prog W = .ok (.slice A' (Q.length - 1) (c - 1)) W) ∧
      ∀ w1, Below w.heap.size w w1 → WK w0 (w1.setCell ⟨pw, 3, none⟩ (.slice A' (Q.length - 1) (c - 1))) D R pw pu pa pb hs (Q.drop 1) := by
  obtain ⟨FU, FT, vU, vS, vH, vT, hq, h1, h2, h3, h4, h5, h6, h7, h8, h9, h10, h11⟩ := h
  obtain ⟨A, c, rfl, hc, hC⟩ := Kd.Q_reads h3
  obtain ⟨ad, rfl, e1, e2, e3⟩ := C_atW hC 0 (by omega)
  have h50 := h5 0 h0
  obtain ⟨i0, hi, hsz⟩ := i106
  rw [h4] at h1
  refine ⟨ad, c, if c = 1 then some ad else (some ad).map (·.add (1 * 3)), (hq.getD 0 noW).2.2, h1, by rw [← h50.1]; exact e1, by rw [← h50.2.1]; exact e2, e3, h50.2.2, fun W => ?_, fun w1 hb => ?_⟩
  · have hel : Tryz.prog.elem 101 = 106 := by simp [Program.elem, Tryz.underlying101]
    have hu : Tryz.prog.underlying 101 = some (.slice (Tryz.prog.elem 101)) := by rw [hel]; exact Tryz.underlying101
    rw [run_slice_l W 101 (some ad) Q.length c hu .i64 1 (by omega) (by omega), hel]
    simp [sizeOf, typeInfo, hi, hsz, sliced, Result.andThen]
  · have hd := Kd.Q_drop (k := 1) h3 (by omega)
    rw [h4] at hd
    have hS : Chg (fun k => k = pw) w1 (w1.setCell ⟨pw, 3, none⟩ (.slice (if c = 1 then some ad else (some ad).map (·.add (1 * 3))) (Q.length - 1) (c - 1))) := Chg.setCell w1 (F := fun k => k = pw) (p := ⟨pw, 3, none⟩) rfl _
    have k1 := Ow.blk_below h1 hb
    refine ⟨FU, FT, vU, vS, vH, .slice (if c = 1 then some ad else (some ad).map (·.add (1 * 3))) (Q.length - 1) (c - 1), hq.drop 1, ?_, (h2.below hb).chg hS (fun k hk e => (h6 k hk).2.2.1 e), Kd.Q_step (Kd.Q_below hd hb) (fun k hk hlt => hS.block k hlt (fun e => (h7 k hk).2.2 e)), by simp [h4], fun j hj => ?_, h6, h7, h8, h9, fun k hk => Nat.lt_of_lt_of_le (h10 k hk) (Nat.le_trans hb.size hS.size), (chg_own (bel_trans h11 hb) (fun k hk => by rw [hk]; exact h8) hS)⟩
    · generalize (if c = 1 then some ad else (some ad).map (·.add (1 * 3))) = A'
      have := blk_set k1 3 (.slice A' (Q.length - 1) (c - 1))
      simpa using this
    · rw [List.length_drop] at hj
      have e1 : (hq.drop 1).getD j noW = hq.getD (1 + j) noW := by rw [List.getD_eq_getElem?_getD, List.getD_eq_getElem?_getD, List.getElem?_drop]
      have e2 : (Q.drop 1).getD j noQ = Q.getD (1 + j) noQ := by rw [List.getD_eq_getElem?_getD, List.getD_eq_getElem?_getD, List.getElem?_drop]
      rw [e1, e2]
      have h5j := h5 (1 + j) (by omega)
      exact ⟨h5j.1, h5j.2.1, (h5j.2.2.below hb).next (hS.mono (F' := DR D R) (fun k _ hk => by rw [hk]; exact .inl h9)) (fun k hk => .inl hk)⟩
theorem lv106 {W : World} {pr : Nat} {a b u : Value} (h0 : W.cell? ⟨pr, 0, none⟩ = some a) (h1 : W.cell? ⟨pr, 1, none⟩ = some b) (h2 : W.cell? ⟨pr, 2, none⟩ = some u) : (loadVar 106 ⟨pr, 0, none⟩).run Tryz.prog W = .ok (.agg #[a, b, u]) W := by
  go_simp
theorem results_cell2 {fn : Func} {r u : Tmp} {ty : TypeId} (h : fn.results = #[.cell r ty, .tmp u]) {tmps : Array Value} {P : Program} {w : World} {ad : Addr} {v : Value} (hr : tmps.getD r undef = .pointer (some ad)) (hl : (loadVar ty ad).run P w = .ok v w) : (results fn tmps).run P w = .ok (.tuple #[v, tmps.getD u undef]) w := by
  rw [Array.getD_eq_getD_getElem?] at hr ⊢
  simp [results, h, hr, hl, asAddr]
theorem res74 : Tryz.f74.results = #[.cell 2 106, .tmp 3] := by kernel_rfl
theorem srt_take {l : List Int} (h : Srt l) {k : Nat} (hk : k < l.length) : ∀ g ∈ l.take k, g < l.getD k 0 := fun g hg => by
  obtain ⟨j, hj, rfl⟩ := List.getElem_of_mem hg
  rw [List.length_take] at hj
  rw [List.getElem_take, List.getD_eq_getElem?_getD, List.getElem?_eq_getElem hk]
  exact List.pairwise_iff_getElem.1 h j k (by omega) hk (by omega)
/-- what a round of the inner loop keeps, by name -/
def RdSaid (w0 : World) (pr pp pw pu pa pb : Nat) (G : Nat → Prop) (s4 : Nat) (qa qb : Int) (u : Value) (wd : List Int) (vF : Value) (fl : List Int) (hs : List Int) (Q : List Qp) (w' : World) : Prop :=
  ∃ D, WK w0 w' D (fun k => k = pr) pw pu pa pb hs Q ∧ (w'.heap[pp]? = some (.cells #[.int .i64 qa, .int .i64 qb, u] 106 (0, 0)) ∧ w'.heap[pr]? = some (.cells #[.int .i64 0, .int .i64 0, .slice none 0 0] 106 (0, 0)) ∧ Stay (DR D fun k => k = pr) w' u wd) ∧
    ((∀ k, G k → ¬ D k) ∧ ¬ D pp ∧ ¬ D pr ∧ s4 ≤ w'.heap.size) ∧ OwF w' G vF fl
theorem RdSaid.cells {w0 w' : World} {pr pp pw pu pa pb s4 : Nat} {G : Nat → Prop} {qa qb : Int} {u vF : Value} {wd fl hs : List Int} {Q : List Qp} (h : RdSaid w0 pr pp pw pu pa pb G s4 qa qb u wd vF fl hs Q w') :
    w'.cell? ⟨pp, 0, none⟩ = some (.int .i64 qa) ∧ w'.cell? ⟨pp, 1, none⟩ = some (.int .i64 qb) ∧ w'.cell? ⟨pp, 2, none⟩ = some u ∧ w'.cell? ⟨pw, 0, none⟩ = some (.pointer (some ⟨pa, 0, none⟩)) ∧ w'.cell? ⟨pw, 1, none⟩ = some (.pointer (some ⟨pb, 0, none⟩)) := by
  obtain ⟨D, h1, ⟨h2, -⟩, -⟩ := h
  obtain ⟨A, c, hdr⟩ := h1.hdr
  exact ⟨blk_cellD h2 0 _ rfl, blk_cellD h2 1 _ rfl, blk_cellD h2 2 _ rfl, blk_cellD hdr 0 _ rfl, blk_cellD hdr 1 _ rfl⟩
theorem rd_said {w0 wr W' w' : World} {D G : Nat → Prop} {pr pp pw pu pa pb s4 : Nat} {qa qb : Int} {u vF : Value} {wd fl hs : List Int} {Q : List Qp} (hc : Below wr.heap.size wr W')
    (H5 : wr.heap[pp]? = some (.cells #[.int .i64 qa, .int .i64 qb, u] 106 (0, 0)) ∧ wr.heap[pr]? = some (.cells #[.int .i64 0, .int .i64 0, .slice none 0 0] 106 (0, 0)) ∧ Stay (DR D fun k => k = pr) wr u wd)
    (HD : (∀ k, G k → ¬ D k) ∧ ¬ D pp ∧ ¬ D pr ∧ s4 ≤ wr.heap.size) (hG : ∀ k, G k → k < s4) (HO : OwF wr G vF fl) (hC : Chg D W' w') (hK : WK w0 w' (ext D W' w') (fun k => k = pr) pw pu pa pb hs Q) :
    RdSaid w0 pr pp pw pu pa pb G s4 qa qb u wd vF fl hs Q w' := by
  have h1 := hc.size
  have h2 := hC.size
  have h3 := blk_lt H5.1
  have h4 := blk_lt H5.2.1
  refine ⟨_, hK, ⟨hC.blk (Ow.blk_below H5.1 hc) HD.2.1, hC.blk (Ow.blk_below H5.2.1 hc) HD.2.2.1, (H5.2.2.below hc).next (hC.mono (F' := DR D fun k => k = pr) (fun k _ hk => .inl hk)) DR_ext⟩,
    ⟨fun k hk hd => hd.elim (HD.1 k hk) (fun h => by have := hG k hk; have := HD.2.2.2; omega), fun hd => hd.elim HD.2.1 (fun h => by omega), fun hd => hd.elim HD.2.2.1 (fun h => by omega), by have := HD.2.2.2; omega⟩, (HO.below hc).chg hC HD.1⟩
theorem HFlen {E : List GE} {S1 S2 : List (List Int)} {a b : Int} {fl : List Int} (h : fldW E S1 S2 a b = fl) (hE : E.length ≤ 60) : fl.length ≤ 120 := by
  have hl : ∀ (S : List (List Int)) (a : Int), (fldG E S a).length ≤ 60 := fun S a => by
    unfold fldG; split
    · exact Nat.le_trans (fields_len E _) hE
    · simp
  have h1 := hl S1 a
  have h2 := hl S2 b
  rw [← h]
  unfold fldW
  have := nodup_len (srtL (fldG E S1 a ++ fldG E S2 b)) (fldG E S1 a ++ fldG E S2 b) ((srt_srtL _).imp (fun h => Int.ne_of_lt h)) (fun x hx => mem_srtL.1 hx)
  rw [List.length_append] at this; omega
/-- what apart tells -/
def ApSaid (w0 : World) (T : List ByteArray) (E : List GE) (o x : Int) (e : Ending) (w' : World) : Prop := Below w0.heap.size w0 w' ∧
  ((∃ a b u wd, e = .returned (.tuple #[.agg #[.int .i64 a, .int .i64 b, u], .bool true]) ∧ RdV w' u wd ∧ (∀ f ∈ wd, ok64 f) ∧ wd.length ≤ 1000 ∧ Least (Df T E [o] [x]) wd) ∨
   (e = .returned (.tuple #[.agg #[.int .i64 0, .int .i64 0, .slice none 0 0], .bool false]) ∧ ∀ v, ¬ Df T E [o] [x] v))
set_option maxHeartbeats 16000000 in
set_option maxRecDepth 100000 in
theorem wapart_any (w0 w : World) (D0 : Nat → Prop) (pw pu pa pb pga pgb Ma Mb n : Nat) (Fa Fb : Nat → Prop) (S1 S2 : List (List Int)) (T : List ByteArray) (E : List GE) (o x : Int) (hs0 : List Int) (Q0 : List Qp)
    (h : WK w0 w D0 (fun _ => False) pw pu pa pb hs0 Q0) (hI : WI T E o x S1 S2 Q0 0 [] hs0) (ha : AuX w0 Fa pa pga S1 (stepG E S1) Ma) (hb : AuX w0 Fb pb pgb S2 (stepG E S2) Mb) (hga : GA w0 pga T E) (hgb : GA w0 pgb T E)
    (hT : T.length = n) (hn : n ≤ 8) (hE : E.length ≤ 60) (hR : RightG n E) (hok : ∀ a f z, (a, f, z) ∈ E → ok64 f) (o0 : 0 ≤ o) (o1 : o < n) (x0 : 0 ≤ x) (x1 : x < n) (hS1 : statesG E n o = S1) (hS2 : statesG E n x = S2) :
    Calls Tryz.prog 74 #[.pointer (some ⟨pw, 0, none⟩)] w (ApSaid w0 T E o x) := by
  have I1 : StI n E o S1 := by rw [← hS1]; exact states_inv hR o0 o1
  have I2 : StI n E x S2 := by rw [← hS2]; exact states_inv hR x0 x1
  have l1 : S1.length ≤ 256 := Nat.le_trans I1.len (Nat.pow_le_pow_right (by decide) hn)
  have l2 : S2.length ≤ 256 := Nat.le_trans I2.len (Nat.pow_le_pow_right (by decide) hn)
  have b1 : ∀ s ∈ S1, s.length ≤ 1000 ∧ ∀ y ∈ s, ok64 y := fun s hs => by have h := sm_ok hn (I1.sm s hs).1; exact ⟨by omega, h.2⟩
  have b2 : ∀ s ∈ S2, s.length ≤ 1000 ∧ ∀ y ∈ s, ok64 y := fun s hs => by have h := sm_ok hn (I2.sm s hs).1; exact ⟨by omega, h.2⟩
  have Hn := Aside0.mk (And.intro hT (And.intro hn (And.intro hE (And.intro hR (And.intro hok (And.intro o0 (And.intro o1 (And.intro x0 (And.intro x1 (And.intro hS1 hS2))))))))))
  have Hl := Aside0.mk (And.intro l1 (And.intro l2 (And.intro b1 b2)))
  have HA := Aside0.mk (And.intro ha (And.intro hb (And.intro hga hgb)))
  have HK0 := Aside0.mk h
  have HI0 := Aside0.mk hI
  clear h hI ha hb hga hgb hT hn hE hR hok o0 o1 x0 x1 hS1 hS2 I1 I2 l1 l2 b1 b2
  go_enter Tryz.func74, Tryz.ntmps74
  go_wp2_with fail
  obtain ⟨pr, hpr⟩ : ∃ b, w.heap.size = b := ⟨_, rfl⟩
  obtain ⟨W, hW⟩ : ∃ W, w.alloc (.cells #[.int .i64 0, .int .i64 0, .slice none 0 0] 106) = W := ⟨_, rfl⟩
  have hal : Below w.heap.size w W := by rw [← hW]; exact below_alloc (Below.refl _ _) _
  have HRs := Aside0.mk (show W.heap[pr]? = some (.cells #[.int .i64 0, .int .i64 0, .slice none 0 0] 106 (0, 0)) ∧ ¬ D0 pr by
    refine ⟨by rw [← hW, ← hpr]; exact heap_alloc_new _ _, fun hd => ?_⟩
    have := HK0.out.lims pr hd; omega)
  have HK1 := Aside0.mk (HK0.out.also (R' := fun k => k = pr) hal (fun k hk => .inr (by rw [hk]; omega)))
  try simp only [hpr, hW]
  have Hpl := Aside0.mk (show w0.heap.size ≤ pr by have := HK0.out.bel.size; omega)
  clear hpr hW hal HK0
  go_loopg [4] (600) (fun kq _ wr => ∃ (D : Nat → Prop) (hs : List Int) (Q : List Qp) (i : Nat), Aside0 (kq = 600 - i) ∧ Aside0 (WK w0 wr D (fun k => k = pr) pw pu pa pb hs (Q.drop i)) ∧ Aside0 (WI T E o x S1 S2 Q i [] hs) ∧ Aside0 (i ≤ Q.length) ∧ Aside0 (wr.heap[pr]? = some (.cells #[.int .i64 0, .int .i64 0, .slice none 0 0] 106 (0, 0)) ∧ ¬ D pr))
  case atStart => exact ⟨D0, hs0, Q0, 0, ⟨rfl⟩, HK1, HI0, ⟨Nat.zero_le _⟩, HRs⟩
  case round =>
    obtain ⟨D, hs, Q, i, Hkq, HK, HI, Hi, HR⟩ := hrel
    by_cases hin : i < Q.length
    · have hm : 0 < (Q.drop i).length := by rw [List.length_drop]; omega
      obtain ⟨ad, c, A', u, f1, f2, f3, f4, f5, f6, f7⟩ := HK.out.first hm
      have hq0 : (Q.drop i).getD 0 noQ = Q.getD i noQ := by rw [List.getD_eq_getElem?_getD, List.getD_eq_getElem?_getD, List.getElem?_drop]; rfl
      rw [hq0] at f2 f3 f5
      have hdd : (Q.drop i).drop 1 = Q.drop (i + 1) := by rw [List.drop_drop]
      rw [hdd] at f7
      obtain ⟨m, hmm⟩ : ∃ m, (Q.drop i).length = m := ⟨_, rfl⟩
      rw [hmm] at f1 f6 f7 hm
      have hm2 : m ≤ 600 := by have h := HI.out.small; have := Hl.out.1; have := Hl.out.2.1; rw [← hmm, List.length_drop]; omega
      obtain ⟨⟨qa, qb, wd⟩, hq⟩ : ∃ q, Q.getD i noQ = q := ⟨_, rfl⟩
      rw [hq] at f2 f3 f5
      obtain ⟨xA, xn, xc⟩ := u
      have c3 : wr.cell? ⟨pw, 3, none⟩ = some (.slice (some ad) m c) := blk_cellD f1 3 _ rfl
      have f4 : wr.cell? ⟨(ad.add (0 * 3)).block, (ad.add (0 * 3)).off + 2, none⟩ = some (.slice xA xn xc) := f4
      have a0 : ad.add (0 * 3) = ad := by unfold Addr.add; simp
      rw [a0] at f2 f3 f4
      have j1 : (0 : Int) < (m : Int) := by omega
      have j2 : (m : Int) ≤ 600 := by omega
      have hnb : decide ((0 : Int) < (m : Int)) = true := decide_eq_true j1
      have hnc : decide (0 < m) = true := decide_eq_true hm
      have f5 : Stay (DR D fun k => k = pr) wr (.slice xA xn xc) wd := f5
      have Hq := Aside0.mk (And.intro hin (And.intro hq f5))
      obtain ⟨pp, hpp⟩ : ∃ b, wr.heap.size = b := ⟨_, rfl⟩
      obtain ⟨W1, hW1⟩ : ∃ W, wr.alloc (.cells #[.int .i64 qa, .int .i64 qb, .slice xA xn xc] 106) = W := ⟨_, rfl⟩
      have hal1 : Below wr.heap.size wr W1 := by rw [← hW1]; exact below_alloc (Below.refl _ _) _
      have hpb : W1.heap[pp]? = some (.cells #[.int .i64 qa, .int .i64 qb, .slice xA xn xc] 106 (0, 0)) := by rw [← hW1, ← hpp]; exact heap_alloc_new _ _
      have e1 := Ow.blk_below f1 hal1
      have c3' : W1.cell? ⟨pw, 3, none⟩ = some (.slice (some ad) m c) := blk_cellD e1 3 _ rfl
      have z3' : W1.frozen? ⟨pw, 3, none⟩ = false := blk_frozen e1 3
      have HK2 := Aside0.mk (f7 W1 hal1)
      have HF := Aside0.mk (And.intro e1 (And.intro hpb (And.intro hal1 hpp)))
      clear hin hq hq0 hdd f5 f1 f7 hmm hm2 hm e1 hpb hal1
      go_wp2_with fail
      try simp only [hpp, hW1]
      obtain ⟨W2, hW2⟩ : ∃ W, W1.setCell ⟨pw, 3, none⟩ (.slice A' (m - 1) (c - 1)) = W := ⟨_, rfl⟩
      rw [hW2] at HK2 ⊢
      have hCW : Chg (fun k => k = pw) W1 W2 := by rw [← hW2]; exact Chg.setCell W1 (F := fun k => k = pw) (p := ⟨pw, 3, none⟩) rfl _
      have hpw : D pw ∧ pw < wr.heap.size := by
        obtain ⟨_, _, _, _, _, _, _, _, _, _, _, _, _, _, _, h9, h10, _⟩ := HK.out
        exact ⟨h9, h10 _ h9⟩
      have hnp : pp ≠ pw := by have := hpw.2; have := HF.out.2.2.2; omega
      have hpb := hCW.blk HF.out.2.1 hnp
      have hpr := hCW.blk (Ow.blk_below HR.out.1 HF.out.2.2.1) (fun e => HR.out.2 (e ▸ hpw.1))
      have hst : Stay (DR D fun k => k = pr) W2 (.slice xA xn xc) wd := (Hq.out.2.2.below HF.out.2.2.1).next (hCW.mono (F' := DR D fun k => k = pr) (fun k _ hk => by rw [hk]; exact .inl hpw.1)) (fun k hk => .inl hk)
      have hsz2 : wr.heap.size < W2.heap.size := by have := blk_lt hpb; have := HF.out.2.2.2; omega
      obtain ⟨A9, c9, hdr⟩ := HK2.out.hdr
      have HB2 := Aside0.mk HK2.out.bel
      have H2 := Aside0.mk (And.intro hpb (And.intro hpr (And.intro hst (And.intro hsz2 (And.intro hdr hpw)))))
      clear hW2 hW1 hpp c3 c3' z3' f2 f3 f4 f6 a0 hCW hnp
      have c0 : W2.cell? ⟨pw, 0, none⟩ = some (.pointer (some ⟨pa, 0, none⟩)) := blk_cellD hdr 0 _ rfl
      have c1 : W2.cell? ⟨pw, 1, none⟩ = some (.pointer (some ⟨pb, 0, none⟩)) := blk_cellD hdr 1 _ rfl
      have d0 : W2.cell? ⟨pp, 0, none⟩ = some (.int .i64 qa) := blk_cellD hpb 0 _ rfl
      have d1 : W2.cell? ⟨pp, 1, none⟩ = some (.int .i64 qb) := blk_cellD hpb 1 _ rfl
      have d2 : W2.cell? ⟨pp, 2, none⟩ = some (.slice xA xn xc) := blk_cellD hpb 2 _ rfl
      clear hdr hpb hpr hst hsz2 hpw
      obtain ⟨B, hB⟩ : ∃ B, decide (tyG T (atG S1 qa) = tyG T (atG S2 qb)) = B := ⟨_, rfl⟩
      have HTl := Aside0.mk (show T.length ≤ 1000 by have := Hn.out.1; have := Hn.out.2.1; omega)
      have HTa := Aside0.mk (fun (W' : World) (hc : Below W2.heap.size W2 W') => atypes_any pa pga Ma Fa S1 (stepG E S1) T E qa W' ((HA.out.1.below HB2.out).below hc) ((HA.out.2.2.1.below HB2.out).below hc) (fun s hs => (Hl.out.2.2.1 s hs).1) HTl.out)
      have HTb := Aside0.mk (fun (W' : World) (hc : Below W2.heap.size W2 W') => atypes_any pb pgb Mb Fb S2 (stepG E S2) T E qb W' ((HA.out.2.1.below HB2.out).below hc) ((HA.out.2.2.2.below HB2.out).below hc) (fun s hs => (Hl.out.2.2.2 s hs).1) HTl.out)
      have hal1 : (atG S1 qa).length ≤ 1000 := by
        unfold atG; split
        · exact (Hl.out.2.2.1 _ (getD_mem (by omega))).1
        · simp
      have HEq := Aside0.mk (fun (W' : World) (u v : Value) (Sa Sb : List ByteArray) (r1 : RdS W' u Sa) (r2 : RdS W' v Sb) (t1 : TypS T (atG S1 qa) Sa) (t2 : TypS T (atG S2 qb) Sb) => (show Calls Tryz.prog 94 #[u, v] W' fun e w' => e = .returned (.bool B) ∧ Below W'.heap.size W' w' by
        have h := eqS_any u v Sa Sb W' r1 r2 (by have := t1.len; omega)
        rewrite [show decide (Sa = Sb) = B by rw [← hB, tyG_eq t1, tyG_eq t2]] at h
        exact h))
      have HB := Aside0.mk hB
      have HBr := Below.refl W2.heap.size W2
      clear hal1 hB
      go_region_held3 (fun W' => W'.cell? ⟨pp, 0, none⟩ = some (.int .i64 qa) ∧ W'.cell? ⟨pp, 1, none⟩ = some (.int .i64 qb) ∧ W'.cell? ⟨pw, 0, none⟩ = some (.pointer (some ⟨pa, 0, none⟩)) ∧ W'.cell? ⟨pw, 1, none⟩ = some (.pointer (some ⟨pb, 0, none⟩)) ∧ Below W2.heap.size W2 W')
        (first | (refine ⟨pw_cell_below (w := W2) ?_ d0, pw_cell_below (w := W2) ?_ d1, pw_cell_below (w := W2) ?_ c0, pw_cell_below (w := W2) ?_ c1, ?_⟩ <;> simp [*]) | go_keep)
        (first
          | (go_at_call 33; (with_reducible refine (HTa.out _ (by simp [*])).mono ?_); rintro e w3 ⟨v1, Sa, rfl, r1, r2, r3⟩; (first | (have HX2 := Aside0.mk (And.intro (HX2.out.1.below r3) HX2.out.2)) | skip); have HX1 := Aside0.mk (And.intro r1 r2); have HB9 := bel_trans (wb := W2) (by simp [*]) r3; clear r1 r2 r3)
          | (go_at_call 33; (with_reducible refine (HTb.out _ (by simp [*])).mono ?_); rintro e w3 ⟨v2, Sb, rfl, r1, r2, r3⟩; (first | (have HX1 := Aside0.mk (And.intro (HX1.out.1.below r3) HX1.out.2)) | skip); have HX2 := Aside0.mk (And.intro r1 r2); have HB9 := bel_trans (wb := W2) (by simp [*]) r3; clear r1 r2 r3)
          | (go_at_call 94; (with_reducible refine (HEq.out _ _ _ _ _ HX1.out.1 HX2.out.1 HX1.out.2 HX2.out.2).mono ?_); rintro e w3 ⟨rfl, r3⟩; have HB9 := bel_trans (wb := W2) (by simp [*]) r3; clear r3)
          | fail)
      rename_i hHeld
      have HB3 := Aside0.mk HB9
      clear hHeld HB9 HBr HX1 HX2 HTa HTb HEq c0 c1
      have hpb := Ow.blk_below H2.out.1 HB3.out
      have hpr := Ow.blk_below H2.out.2.1 HB3.out
      have d0 : w3.cell? ⟨pp, 0, none⟩ = some (.int .i64 qa) := blk_cellD hpb 0 _ rfl
      have d1 : w3.cell? ⟨pp, 1, none⟩ = some (.int .i64 qb) := blk_cellD hpb 1 _ rfl
      have d2 : w3.cell? ⟨pp, 2, none⟩ = some (.slice xA xn xc) := blk_cellD hpb 2 _ rfl
      by_cases hBt : B = true
      case neg =>
        have hBf : B = false := by simpa using hBt
        subst hBf
        have g0 : w3.cell? ⟨pr, 0, none⟩ = some (.int .i64 0) := blk_cellD hpr 0 _ rfl
        have g1 : w3.cell? ⟨pr, 1, none⟩ = some (.int .i64 0) := blk_cellD hpr 1 _ rfl
        have g2 : w3.cell? ⟨pr, 2, none⟩ = some (.slice none 0 0) := blk_cellD hpr 2 _ rfl
        have z0 : w3.frozen? ⟨pr, 0, none⟩ = false := blk_frozen hpr 0
        have z1 : w3.frozen? ⟨pr, 1, none⟩ = false := blk_frozen hpr 1
        have z2 : w3.frozen? ⟨pr, 2, none⟩ = false := blk_frozen hpr 2
        have Hpr := Aside0.mk hpr
        clear hpb hpr hBt
        obtain ⟨W9, hW9⟩ : ∃ W, ((w3.setCell ⟨pr, 0, none⟩ (.int .i64 qa)).setCell ⟨pr, 1, none⟩ (.int .i64 qb)).setCell ⟨pr, 2, none⟩ (.slice xA xn xc) = W := ⟨_, rfl⟩
        have hC9 : Chg (fun k => k = pr) w3 W9 := by
          rw [← hW9]
          exact ((Chg.setCell w3 (F := fun k => k = pr) (p := ⟨pr, 0, none⟩) rfl _).then_ (Chg.setCell _ (F := fun k => k = pr) (p := ⟨pr, 1, none⟩) rfl _) (fun k hk => .inl hk)).then_ (Chg.setCell _ (F := fun k => k = pr) (p := ⟨pr, 2, none⟩) rfl _) (fun k hk => .inl hk)
        have hb9 : W9.heap[pr]? = some (.cells #[.int .i64 qa, .int .i64 qb, .slice xA xn xc] 106 (0, 0)) := by
          rw [← hW9]
          have := blk_set (blk_set (blk_set Hpr.out 0 (.int .i64 qa)) 1 (.int .i64 qb)) 2 (.slice xA xn xc)
          simpa using this
        have u0 : W9.cell? ⟨pr, 0, none⟩ = some (.int .i64 qa) := blk_cellD hb9 0 _ rfl
        have u1 : W9.cell? ⟨pr, 1, none⟩ = some (.int .i64 qb) := blk_cellD hb9 1 _ rfl
        have u2 : W9.cell? ⟨pr, 2, none⟩ = some (.slice xA xn xc) := blk_cellD hb9 2 _ rfl
        have hD : Df T E (atG S1 qa) (atG S2 qb) [] := fun e => by
          have h := HB.out
          have e : tyG T (atG S1 qa) = tyG T (atG S2 qb) := e
          rw [decide_eq_true e] at h; cases h
        have hmem : (qa, qb, wd) ∈ Q := by rw [← Hq.out.2.1]; exact getD_mem Hq.out.1
        have hlst : Least (Df T E [o] [x]) wd := by
          have h := HI.out.least Hq.out.1 (by rw [Hq.out.2.1]; exact hD)
          rw [Hq.out.2.1] at h; exact h
        have hlen : wd.length ≤ 1000 := by
          have h1 := HI.out.len i Hq.out.1
          rw [Hq.out.2.1] at h1
          have h1 : wd.length ≤ i := h1
          have h2 := HI.out.small; have := Hl.out.1; have := Hl.out.2.1; have := Hq.out.1; omega
        have hwd : RdV W9 (.slice xA xn xc) wd := (H2.out.2.2.1.below HB3.out) W9 (hC9.mono (fun k _ hk => .inr hk))
        have hbl : Below w0.heap.size w0 W9 := chg_own (bel_trans HB2.out HB3.out) (fun k hk => by rw [hk]; exact Hpl.out) hC9
        have HAp := Aside0.mk (show ApSaid w0 T E o x (.returned (.tuple #[.agg #[.int .i64 qa, .int .i64 qb, .slice xA xn xc], .bool true])) W9 from ⟨hbl, .inl ⟨qa, qb, _, wd, rfl, hwd, HI.out.ok _ hmem, hlen, hlst⟩⟩)
        clear hwd hlen hlst hmem hD hb9 hC9 hbl
        go_wp2_with fail
        try simp only [hW9]
        clear hW9
        refine bodyPost_ret (results_cell2 res74 rfl (lv106 u0 u1 u2)) rfl ?_
        exact HAp.out
      subst hBt
      have hdr3 := Ow.blk_below H2.out.2.2.2.2.1 HB3.out
      have HFl := Aside0.mk (wfields_any pw pu pa pb pga pgb Ma Mb Fa Fb S1 S2 (stepG E S1) (stepG E S2) T E _ qa qb xA xn xc w3 hdr3 (HA.out.1.below (bel_trans HB2.out HB3.out)) (HA.out.2.1.below (bel_trans HB2.out HB3.out)) (HA.out.2.2.1.below (bel_trans HB2.out HB3.out)) (HA.out.2.2.2.below (bel_trans HB2.out HB3.out)) Hl.out.2.2.1 Hl.out.2.2.2 (by have := Hn.out.2.2.1; omega) (right_ok Hn.out.2.1 Hn.out.2.2.2.1))
      obtain ⟨fl, hfl⟩ : ∃ fl, fldW E S1 S2 qa qb = fl := ⟨_, rfl⟩
      rw [hfl] at HFl
      have Hfl := Aside0.mk hfl
      clear hdr3 hfl hpb hpr
      go_wp2_with fail
      refine HFl.out.mono ?_
      rintro e w4 ⟨v4, rfl, r1, r2⟩
      obtain ⟨A5, c5, rfl, -, -⟩ := r1.rd
      have HOw := Aside0.mk (OwF.of_own (F := fun k => w3.heap.size ≤ k ∧ k < w4.heap.size) r1 (fun k h1 h2 => ⟨h1, h2⟩))
      have HB4 := Aside0.mk (bel_trans HB3.out r2)
      have HK4 := Aside0.mk (HK2.out.below HB4.out)
      have HI4 := HI
      have H4 := Aside0.mk (And.intro (Ow.blk_below H2.out.1 HB4.out) (And.intro (Ow.blk_below H2.out.2.1 HB4.out) (H2.out.2.2.1.below HB4.out)))
      have HD4 := Aside0.mk (show (∀ k, w3.heap.size ≤ k ∧ k < w4.heap.size → ¬ D k) ∧ ¬ D pp ∧ ¬ D pr ∧ w4.heap.size ≤ w4.heap.size from by
        have hl := HK.out.lims
        have h1 := H2.out.2.2.2.1
        have h2 := HB3.out.size
        have h3 := HF.out.2.2.2
        exact ⟨fun k hk hd => by have := hl k hd; omega, fun hd => by have := hl pp hd; omega, HR.out.2, Nat.le_refl _⟩)
      obtain ⟨nf, hnf⟩ : ∃ nf, fl.length = nf := ⟨_, rfl⟩
      have Hnf := Aside0.mk (And.intro hnf (show nf ≤ 1000 by
        have h1 := HFlen Hfl.out (show E.length ≤ 60 from Hn.out.2.2.1)
        omega))
      rw [hnf] at HOw ⊢
      clear r1 r2 d0 d1 d2 HFl hnf
      go_wp2_with fail
      go_loopw [48] (fun I wy => ∃ (k : Nat) (D : Nat → Prop) (hs : List Int) (Q : List Qp), I = .int .i64 (k : Int) ∧ k ≤ nf ∧ Aside0 (WK w0 wy D (fun k => k = pr) pw pu pa pb hs (Q.drop (i + 1))) ∧ Aside0 (WI T E o x S1 S2 Q i (fl.take k) hs) ∧ Aside0 (i < Q.length ∧ Q.getD i noQ = (qa, qb, wd)) ∧
        Aside0 (wy.heap[pp]? = some (.cells #[.int .i64 qa, .int .i64 qb, .slice xA xn xc] 106 (0, 0)) ∧ wy.heap[pr]? = some (.cells #[.int .i64 0, .int .i64 0, .slice none 0 0] 106 (0, 0)) ∧ Stay (DR D fun k => k = pr) wy (.slice xA xn xc) wd) ∧
        Aside0 ((∀ k, w3.heap.size ≤ k ∧ k < w4.heap.size → ¬ D k) ∧ ¬ D pp ∧ ¬ D pr ∧ w4.heap.size ≤ wy.heap.size) ∧ Aside0 (OwF wy (fun k => w3.heap.size ≤ k ∧ k < w4.heap.size) (.slice A5 nf c5) fl)) (fun I _ => nf - (intOf I).toNat)
      case atStart => exact ⟨0, D, hs, Q, rfl, Nat.zero_le _, HK4, HI4, ⟨Hq.out.1, Hq.out.2.1⟩, H4, HD4, HOw⟩
      case round =>
        obtain ⟨k, D, hs, Q, rfl, hk, HK, HI, Hq, H5, HD, HO⟩ := hrel
        by_cases hkn : k < nf
        · have hnb : decide ((k : Int) < (nf : Int)) = true := decide_eq_true (by omega)
          have hnc : decide (k < nf) = true := decide_eq_true hkn
          have k0 : (0 : Int) ≤ (k : Int) := by omega
          have k1 : (k : Int) < (nf : Int) := by omega
          have k2 : (k : Int) ≤ 1000 := by have := Hnf.out.2; omega
          obtain ⟨A6, c6, he6, -, hr6⟩ := HO.out.toV
          injection he6 with hq1 hq2 hq3
          subst hq1; subst hq3
          obtain ⟨ad5, rfl, e1⟩ := hr6.at_ (k : Int) (by omega) (by omega)
          obtain ⟨f, hf⟩ : ∃ f, fl.getD k 0 = f := ⟨_, rfl⟩
          have e1 : wr.cell? (ad5.add k) = some (.int .i64 f) := by rw [← hf]; simpa [rd] using e1
          have hfm : f ∈ fl := by rw [← hf]; exact getD_mem (by omega)
          have hfo : ok64 f := by
            rw [← Hfl.out] at hfm
            rcases List.mem_append.1 (mem_srtL.1 hfm) with h | h
            · unfold fldG at h; split at h
              · exact fields_ok Hn.out.2.2.2.2.1 _ f h
              · cases h
            · unfold fldG at h; split at h
              · exact fields_ok Hn.out.2.2.2.2.1 _ f h
              · cases h
          have hlt : ∀ g ∈ fl.take k, g < f := by rw [← hf]; exact srt_take (by rw [← Hfl.out]; exact srt_srtL _) (by omega)
          obtain ⟨a', ha'⟩ : ∃ z, (stepG E S1 qa f).getD (-1) = z := ⟨_, rfl⟩
          obtain ⟨b', hb'⟩ : ∃ z, (stepG E S2 qb f).getD (-1) = z := ⟨_, rfl⟩
          have hmem : (qa, qb, wd) ∈ Q := by rw [← Hq.out.2]; exact getD_mem Hq.out.1
          have rg1 : -1 ≤ qa ∧ qa < S1.length := (HI.out.rng _ hmem).1
          have rg2 : -1 ≤ qb ∧ qb < S2.length := (HI.out.rng _ hmem).2
          have hst1 := (at_step Hn.out.2.2.2.1 Hn.out.2.2.2.2.2.1 Hn.out.2.2.2.2.2.2.1 Hn.out.2.2.2.2.2.2.2.2.2.1 rg1 f).1
          have hst2 := (at_step Hn.out.2.2.2.1 Hn.out.2.2.2.2.2.2.2.1 Hn.out.2.2.2.2.2.2.2.2.1 Hn.out.2.2.2.2.2.2.2.2.2.2 rg2 f).1
          have hWI := HI.out.meet Hn.out.2.2.2.1 Hn.out.2.2.2.2.2.1 Hn.out.2.2.2.2.2.2.1 Hn.out.2.2.2.2.2.2.2.1 Hn.out.2.2.2.2.2.2.2.2.1 Hn.out.2.2.2.2.2.2.2.2.2.1 Hn.out.2.2.2.2.2.2.2.2.2.2 Hq.out.1 hlt hfo Hq.out.2 ha' hb'
          rw [← hf, ← take_snoc (by omega), hf] at hWI
          have HWI := Aside0.mk hWI
          have hlen : wd.length ≤ 600 := by
            have h1 := HI.out.len i Hq.out.1
            rw [Hq.out.2] at h1
            have h1 : wd.length ≤ i := h1
            have h2 := HI.out.small; have := Hl.out.1; have := Hl.out.2.1; have := Hq.out.1; omega
          obtain ⟨A9, c9, hdr⟩ := HK.out.hdr
          have c0 : wr.cell? ⟨pw, 0, none⟩ = some (.pointer (some ⟨pa, 0, none⟩)) := blk_cellD hdr 0 _ rfl
          have c1 : wr.cell? ⟨pw, 1, none⟩ = some (.pointer (some ⟨pb, 0, none⟩)) := blk_cellD hdr 1 _ rfl
          have d0 : wr.cell? ⟨pp, 0, none⟩ = some (.int .i64 qa) := blk_cellD H5.out.1 0 _ rfl
          have d1 : wr.cell? ⟨pp, 1, none⟩ = some (.int .i64 qb) := blk_cellD H5.out.1 1 _ rfl
          have d2 : wr.cell? ⟨pp, 2, none⟩ = some (.slice xA xn xc) := blk_cellD H5.out.1 2 _ rfl
          have HSa := Aside0.mk (fun (W' : World) (hc : Below wr.heap.size wr W') => by
            have h := astep_any pa pga Ma Fa S1 (stepG E S1) qa f W' (HA.out.1.below (bel_trans HK.out.bel hc)) (ok64_of (by omega) (by have := Hl.out.1; omega)) hfo
            rewrite [ha'] at h; exact h)
          have HSb := Aside0.mk (fun (W' : World) (hc : Below wr.heap.size wr W') => by
            have h := astep_any pb pgb Mb Fb S2 (stepG E S2) qb f W' (HA.out.2.1.below (bel_trans HK.out.bel hc)) (ok64_of (by omega) (by have := Hl.out.2.1; omega)) hfo
            rewrite [hb'] at h; exact h)
          have HCl := Aside0.mk (fun (W' : World) (hc : Below wr.heap.size wr W') => (clone_any (.slice xA xn xc) wd W' (H5.out.2.2.rd.below hc) (by omega)).mono (show ∀ e w', _ → (∃ v, e = .returned v ∧ OwI w' wr.heap.size v wd) ∧ Below W'.heap.size W' w' from fun e w' ⟨v, h1, h2, h3⟩ => ⟨⟨v, h1, h2.lower hc.size⟩, h3⟩))
          have hQd : (Q.drop (i + 1)).length ≤ 1000 := by have h2 := HI.out.small; have := Hl.out.1; have := Hl.out.2.1; rw [List.length_drop]; omega
          have hhs : hs.length ≤ 1000 := by have h2 := HI.out.uni.len; have := Hl.out.1; have := Hl.out.2.1; omega
          rw [ha'] at hst1
          rw [hb'] at hst2
          have HMt := Aside0.mk (fun (W' : World) (hc : Below wr.heap.size wr W') (v : Value) (hv : OwI W' wr.heap.size v (wd ++ [f])) => (show Calls Tryz.prog 73 #[.pointer (some ⟨pw, 0, none⟩), .agg #[.int .i64 a', .int .i64 b', v]] W' (fun e w' => e = .returned (.tuple #[]) ∧ RdSaid w0 pr pp pw pu pa pb (fun k => w3.heap.size ≤ k ∧ k < w4.heap.size) w4.heap.size qa qb (.slice xA xn xc) wd (.slice (some ad5) nf c5) fl (joinS hs [(numW S1.length S2.length a' 0 : Int), (numW S1.length S2.length b' S1.length : Int)]) (if joinS hs [(numW S1.length S2.length a' 0 : Int), (numW S1.length S2.length b' S1.length : Int)] = hs then Q.drop (i + 1) else Q.drop (i + 1) ++ [(a', b', wd ++ [f])]) w') from by
            obtain ⟨⟨xA', xn', xc'⟩, rfl, -⟩ := RdV.enc hv.toV
            exact (meet_any w0 W' D (fun k => k = pr) pw pu pa pb pga pgb Ma Mb Fa Fb S1 S2 (stepG E S1) (stepG E S2) hs (Q.drop (i + 1)) a' b' (xA', xn', xc') (wd ++ [f]) (HK.out.below hc) HA.out.1 HA.out.2.1 Hl.out.1 Hl.out.2.1
              (Stay.of_own (OwF.of_own (F := fun k => wr.heap.size ≤ k) hv (fun k h _ => h)) (fun k hk hd => hd.elim (fun hd => by have := HK.out.lims k hd; omega) (fun e => by have := blk_lt H5.out.2.1; omega))) hst1 hst2 hhs hQd).mono (fun e w' ⟨h1, h2, h3⟩ => ⟨h1, rd_said hc H5.out HD.out (fun k hk => hk.2) HO.out h2 h3⟩)))
          have hL0 : (wr.alloc (.cells #[.int .i64 f] 3)).cell? ⟨wr.heap.size, 0, none⟩ = some (.int .i64 f) := blk_cell (heap_alloc_new _ _) 0
          have Hk := Aside0.mk (And.intro hkn hlen)
          have HBr := Below.refl wr.heap.size wr
          clear hkn hk hr6 hf hfm hfo hlt ha' hb' hmem rg1 rg2 hst1 hst2 hWI hlen hdr hQd hhs hq2
          replace k0 := eq_true k0
          replace k1 := eq_true k1
          go_wp2_with fail
          go_region_held3 (fun W' => W'.cell? ⟨pp, 0, none⟩ = some (.int .i64 qa) ∧ W'.cell? ⟨pp, 1, none⟩ = some (.int .i64 qb) ∧ W'.cell? ⟨pp, 2, none⟩ = some (.slice xA xn xc) ∧ W'.cell? ⟨pw, 0, none⟩ = some (.pointer (some ⟨pa, 0, none⟩)) ∧ W'.cell? ⟨pw, 1, none⟩ = some (.pointer (some ⟨pb, 0, none⟩)))
            (first | (exact HS9.out) | (refine ⟨pw_cell_below (w := wr) ?_ d0, pw_cell_below (w := wr) ?_ d1, pw_cell_below (w := wr) ?_ d2, pw_cell_below (w := wr) ?_ c0, pw_cell_below (w := wr) ?_ c1⟩ <;> simp [*]) | go_keep)
            (first
              | (go_at_call 28; (with_reducible refine (HSa.out _ (by simp [*])).mono ?_); rintro e w7 ⟨rfl, rfl⟩)
              | (go_at_call 28; (with_reducible refine (HSb.out _ (by simp [*])).mono ?_); rintro e w7 ⟨rfl, rfl⟩)
              | (go_at_call 68; (with_reducible refine (HCl.out _ (by simp [*])).mono ?_); rintro e w7 ⟨⟨v7, rfl, r1⟩, r2⟩; (first | (have hL9 := bel_cell r2 (b := wr.heap.size) (o := 0) (v := .int .i64 f) hL0) | skip); have HX1 := Aside0.mk r1; have HB9 := bel_trans (wb := wr) (by simp [*]) r2; clear r1 r2)
              | (refine app_stepB (wb := wr) (by rfl) _ _ (by rfl) _ _ wd [f] (by rfl) (by rfl) (by first | exact HX1.out | exact HX1.out.alloc _) (RdV.one (by simp [*])) (by simp [*]) (by have := Hk.out.2; simp; omega) ?_; intro v8 w8 ho1 hb1 hg1 hat1; obtain ⟨A8, c8, hv8, hv8a, hv8b⟩ := ho1.rd; clear hv8a hv8b; generalize (wd ++ [f]).length = n8 at hv8; subst hv8; have HX3 := Aside0.mk ho1; have HB9 := hb1; clear ho1 hb1 hg1 hat1)
              | (go_at_call 73; (with_reducible refine (HMt.out _ (by simp [*]) _ HX3.out).mono ?_); rintro e w7 ⟨rfl, r1⟩; have HM9 := Aside0.mk r1; have HS9 := Aside0.mk r1.cells; clear r1)
              | fail)
          all_goals
            have HQ2 := Aside0.mk (show ∃ Q2, WI T E o x S1 S2 Q2 i (fl.take (k + 1)) (joinS hs [(numW S1.length S2.length a' 0 : Int), (numW S1.length S2.length b' S1.length : Int)]) ∧ (i < Q2.length ∧ Q2.getD i noQ = (qa, qb, wd)) ∧ Q2.drop (i + 1) = (if joinS hs [(numW S1.length S2.length a' 0 : Int), (numW S1.length S2.length b' S1.length : Int)] = hs then Q.drop (i + 1) else Q.drop (i + 1) ++ [(a', b', wd ++ [f])]) from ⟨_, HWI.out, by
              split
              · exact ⟨Hq.out, rfl⟩
              · exact ⟨⟨by have := Hq.out.1; simp; omega, by rw [getD_old Q _ noQ Hq.out.1]; exact Hq.out.2⟩, List.drop_append_of_le_length (by have := Hq.out.1; omega)⟩⟩)
            obtain ⟨Q2, hw2, hq2, hd2⟩ := HQ2.out
            obtain ⟨D2, m1, m2, m3, m4⟩ := HM9.out
            rw [← hd2] at m1
            have HN := Aside0.mk (And.intro m1 (And.intro hw2 (And.intro hq2 (And.intro m2 (And.intro m3 m4)))))
            clear m1 m2 m3 m4 hw2 hq2 hd2 HQ2 hL0 d0 d1 d2 c0 c1 HBr e1
            go_wp2_with fail
            go_roundw
            case rel => exact ⟨k + 1, D2, _, Q2, by go_num, Hk.out.1, ⟨HN.out.1⟩, ⟨HN.out.2.1⟩, ⟨HN.out.2.2.1⟩, ⟨HN.out.2.2.2.1⟩, ⟨HN.out.2.2.2.2.1⟩, ⟨HN.out.2.2.2.2.2⟩⟩
            case measure => have := Hk.out.1; simp [intOf]; omega
        · have hnb : decide ((k : Int) < (nf : Int)) = false := decide_eq_false (by omega)
          have hnc : decide (k < nf) = false := decide_eq_false hkn
          obtain rfl : k = nf := by omega
          have hnext : WI T E o x S1 S2 Q (i + 1) [] hs := by
            have h := HI.out
            rw [← Hnf.out.1, List.take_length, ← Hfl.out] at h
            refine WI.next (by rw [Hq.out.2]; exact h) Hq.out.1 ?_
            rw [Hq.out.2]
            exact fun hd => hd (of_decide_eq_true HB.out)
          have HNx := Aside0.mk hnext
          clear hkn hk hnext
          go_wp2_with fail
          go_roundg (600 - (i + 1))
          case measure => have h1 := Hkq.out; have h2 := HI.out.small; have := Hl.out.1; have := Hl.out.2.1; have := Hq.out.1; omega
          case rel => exact ⟨D, hs, Q, i + 1, ⟨rfl⟩, HK, HNx, ⟨by have := Hq.out.1; omega⟩, ⟨H5.out.2.1, HD.out.2.2.1⟩⟩
    · obtain rfl : i = Q.length := by have := Hi.out; omega
      have hnone := HI.out.none
      obtain ⟨A9, c9, hdr⟩ := HK.out.hdr
      rw [List.drop_length] at hdr
      have c3 : wr.cell? ⟨pw, 3, none⟩ = some (.slice A9 0 c9) := blk_cellD hdr 3 _ rfl
      have g0 : wr.cell? ⟨pr, 0, none⟩ = some (.int .i64 0) := blk_cellD HR.out.1 0 _ rfl
      have g1 : wr.cell? ⟨pr, 1, none⟩ = some (.int .i64 0) := blk_cellD HR.out.1 1 _ rfl
      have g2 : wr.cell? ⟨pr, 2, none⟩ = some (.slice none 0 0) := blk_cellD HR.out.1 2 _ rfl
      have z0 : wr.frozen? ⟨pr, 0, none⟩ = false := blk_frozen HR.out.1 0
      have z1 : wr.frozen? ⟨pr, 1, none⟩ = false := blk_frozen HR.out.1 1
      have z2 : wr.frozen? ⟨pr, 2, none⟩ = false := blk_frozen HR.out.1 2
      clear hin hdr
      obtain ⟨W9, hW9⟩ : ∃ W, ((wr.setCell ⟨pr, 0, none⟩ (.int .i64 0)).setCell ⟨pr, 1, none⟩ (.int .i64 0)).setCell ⟨pr, 2, none⟩ (.slice none 0 0) = W := ⟨_, rfl⟩
      have hC9 : Chg (fun k => k = pr) wr W9 := by
        rw [← hW9]
        exact ((Chg.setCell wr (F := fun k => k = pr) (p := ⟨pr, 0, none⟩) rfl _).then_ (Chg.setCell _ (F := fun k => k = pr) (p := ⟨pr, 1, none⟩) rfl _) (fun k hk => .inl hk)).then_ (Chg.setCell _ (F := fun k => k = pr) (p := ⟨pr, 2, none⟩) rfl _) (fun k hk => .inl hk)
      have hb9 : W9.heap[pr]? = some (.cells #[.int .i64 0, .int .i64 0, .slice none 0 0] 106 (0, 0)) := by
        rw [← hW9]
        have := blk_set (blk_set (blk_set HR.out.1 0 (.int .i64 0)) 1 (.int .i64 0)) 2 (.slice none 0 0)
        simpa using this
      have u0 : W9.cell? ⟨pr, 0, none⟩ = some (.int .i64 0) := blk_cellD hb9 0 _ rfl
      have u1 : W9.cell? ⟨pr, 1, none⟩ = some (.int .i64 0) := blk_cellD hb9 1 _ rfl
      have u2 : W9.cell? ⟨pr, 2, none⟩ = some (.slice none 0 0) := blk_cellD hb9 2 _ rfl
      have hbl : Below w0.heap.size w0 W9 := chg_own HK.out.bel (fun k hk => by rw [hk]; exact Hpl.out) hC9
      have HAp := Aside0.mk (show ApSaid w0 T E o x (.returned (.tuple #[.agg #[.int .i64 0, .int .i64 0, .slice none 0 0], .bool false])) W9 from ⟨hbl, .inr ⟨rfl, hnone⟩⟩)
      clear hb9 hC9 hbl hnone
      go_wp2_with fail
      try simp only [hW9]
      clear hW9
      refine bodyPost_ret (results_cell2 res74 rfl (lv106 u0 u1 u2)) rfl ?_
      exact HAp.out
end Go.Proofs.YtkpadjhdneiniaaGreatDoor.Am
end
