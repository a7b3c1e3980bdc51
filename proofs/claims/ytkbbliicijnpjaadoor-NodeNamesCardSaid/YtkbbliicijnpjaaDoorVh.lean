/- Vg, Vh -/
import Derived.Test.YtkbbliicijnpjaaDoorVf
/- Vg: nodes: Len. -/
section
namespace Go.Proofs.YtkbbliicijnpjaaDoor.Tx
open Go.RowKit Go.Proofs.YtkbbliicijnpjaaDoorW.PrintWords Go.Proofs.YtkbbliicijnpjaaDoorW.PrintLast Go.Proofs.YtkbbliicijnpjaaDoorW.PrintMore
open Go.Proofs.YtkbbliicijnpjaaDoor.Base Go.Proofs.YtkbbliicijnpjaaDoor.Map Go.Proofs.YtkbbliicijnpjaaDoor.Ca Go.Proofs.YtkbbliicijnpjaaDoor.Qu Go.Proofs.YtkbbliicijnpjaaDoor.In Go.Proofs.YtkbbliicijnpjaaDoor.Kx Go.Maps Go.Proofs.YtkbbliicijnpjaaDoor.PNodeIds
set_option linter.unusedVariables false

theorem idxI_l0 (l : List Int) (x : Int) (hl : l.length ≤ 9223372036854775807) : ∀ (d j k : Nat), d + j = l.length → d < k → ∃ r, slices_Index_int_int.l0 k l x (l.length : Int) (j : Int) = some r ∧ decide (r ≥ 0) = decide (x ∈ l.drop j)
  | _, _, 0, _, hk => absurd hk (Nat.not_lt_zero _)
  | 0, j, k + 1, hd, hk => by
    refine ⟨-1, by rw [slices_Index_int_int.l0, if_neg (by omega)], ?_⟩
    rw [List.drop_eq_nil_of_le (by omega)]
    rfl
  | d + 1, j, k + 1, hd, hk => by
    obtain ⟨r, h1, h2⟩ := idxI_l0 l x hl d (j + 1) k (by omega) (by omega)
    have hw : wrap64 ((j : Int) + 1) = ((j + 1 : Nat) : Int) := by unfold wrap64; omega
    have e1 : l.drop j = rd l (j : Int) :: l.drop (j + 1) := by
      rw [List.drop_eq_getElem_cons (show j < l.length by omega)]
      simp [rd, List.getD, List.getElem?_eq_getElem (show j < l.length by omega)]
    rw [slices_Index_int_int.l0, if_pos (by omega), if_pos (by omega), if_pos (by omega), e1]
    by_cases h : x = rd l (j : Int)
    · rw [if_pos h]
      refine ⟨_, rfl, ?_⟩
      rw [decide_eq_true (show ((j : Int) ≥ 0) by omega), decide_eq_true (by rw [h]; exact List.mem_cons_self)]
    · rw [if_neg h, hw]
      refine ⟨r, h1, ?_⟩
      rw [h2]
      simp [h]
theorem containsI_f (l : List Int) (x : Int) (hl : l.length ≤ 9223372036854775807) : slices_Contains_int_int.f (l.length + 1) l x = some (decide (x ∈ l)) := by
  obtain ⟨r, h1, h2⟩ := idxI_l0 l x hl l.length 0 (l.length + 1) rfl (by omega)
  rw [slices_Contains_int_int.f, slices_Index_int_int.f]
  have h3 : slices_Index_int_int.l0 (l.length + 1) l x (l.length : Int) 0 = some r := h1
  rw [h3, Option.bind_some, h2]
  rfl
theorem containsI_any {w : World} {u : Value} {l : List Int} (x : Int) (hu : RdV w u l) : Calls Tryd.prog 59 #[u, .int .i64 x] w fun e w' => e = .returned (.bool (decide (x ∈ l))) ∧ Below w.heap.size w w' := by
  obtain ⟨A, c, rfl, hc, hr⟩ := hu
  exact (slices_Contains_int_int.calls (l.length + 1) A c l x _ w hr.out hc (containsI_f l x hr.max)).mono fun e w' h => ⟨h.1, h.2.below⟩
/-- how many nodes of the kinds below j -/
def lenTo (tl : List (List Int)) (ks : List Int) : Nat → Int
  | 0 => 0
  | j + 1 => lenTo tl ks j + if ks = [] ∨ (j : Int) ∈ ks then cntK tl (j : Int) else 0
theorem lenTo_bd (tl : List (List Int)) (ks : List Int) : ∀ j : Nat, 0 ≤ lenTo tl ks j ∧ lenTo tl ks j ≤ (j : Int) * (tl.length : Int)
  | 0 => by unfold lenTo; omega
  | j + 1 => by
    have h1 := lenTo_bd tl ks j
    have h2 := cntK_le tl (j : Int)
    have e : ((j + 1 : Nat) : Int) * (tl.length : Int) = (j : Int) * (tl.length : Int) + (tl.length : Int) := by
      rw [Int.natCast_add, Int.add_mul]; simp
    unfold lenTo
    rw [e]
    split <;> omega
def lenN (tl : List (List Int)) (ks : List Int) : Int := lenTo tl ks 5

theorem ix0 (a b c d e : Value) (w : World) : (Instr.index 88 (.agg #[a, b, c, d, e]) (.int .i64 0)).run Tryd.prog w = .ok a w := by kernel_rfl
theorem ix1 (a b c d e : Value) (w : World) : (Instr.index 88 (.agg #[a, b, c, d, e]) (.int .i64 1)).run Tryd.prog w = .ok b w := by kernel_rfl
theorem ix2 (a b c d e : Value) (w : World) : (Instr.index 88 (.agg #[a, b, c, d, e]) (.int .i64 2)).run Tryd.prog w = .ok c w := by kernel_rfl
theorem ix3 (a b c d e : Value) (w : World) : (Instr.index 88 (.agg #[a, b, c, d, e]) (.int .i64 3)).run Tryd.prog w = .ok d w := by kernel_rfl
theorem ix4 (a b c d e : Value) (w : World) : (Instr.index 88 (.agg #[a, b, c, d, e]) (.int .i64 4)).run Tryd.prog w = .ok e w := by kernel_rfl
set_option maxHeartbeats 4000000 in
set_option maxRecDepth 100000 in
theorem len_nk (w0 w : World) (x p q : Nat) (tl : List (List Int)) (u : Value) (ks : List Int) (h : NK w0 w x p q tl) (hu : RdV w u ks) (hlen : tl.length ≤ 1000) :
    Calls Tryd.prog 31 #[.pointer (some ⟨x, 0, none⟩), u] w fun e w' => e = .returned (.int .i64 (lenN tl ks)) ∧ Below w.heap.size w w' := by
  obtain ⟨A, c, rfl, hc, hr⟩ := hu
  have hxb := h.blk
  have HU := Aside0.mk (hr.toV hc)
  have HLn := Aside0.mk hlen
  obtain ⟨sN, hs⟩ : ∃ s, lenN tl ks = s := ⟨_, rfl⟩
  have Hs := Aside0.mk hs
  rw [hs]
  obtain ⟨n0, hn0⟩ : ∃ n, cntK tl 0 = n := ⟨_, rfl⟩
  obtain ⟨n1, hn1⟩ : ∃ n, cntK tl 1 = n := ⟨_, rfl⟩
  obtain ⟨n2, hn2⟩ : ∃ n, cntK tl 2 = n := ⟨_, rfl⟩
  obtain ⟨n3, hn3⟩ : ∃ n, cntK tl 3 = n := ⟨_, rfl⟩
  obtain ⟨n4, hn4⟩ : ∃ n, cntK tl 4 = n := ⟨_, rfl⟩
  unfold nodeB at hxb
  rw [hn0, hn1, hn2, hn3, hn4] at hxb
  have x2 := blk_cell hxb 2
  have x3 := blk_cell hxb 3
  have x4 := blk_cell hxb 4
  have x5 := blk_cell hxb 5
  have x6 := blk_cell hxb 6
  have HN := Aside0.mk (show cntK tl 0 = n0 ∧ cntK tl 1 = n1 ∧ cntK tl 2 = n2 ∧ cntK tl 3 = n3 ∧ cntK tl 4 = n4 from ⟨hn0, hn1, hn2, hn3, hn4⟩)
  clear hs hlen hxb hr hc hn0 hn1 hn2 hn3 hn4 h
  go_enter Tryd.func31, Tryd.ntmps31
  go_wp2_with fail
  go_loopw [5, 6, 7, 12] (fun T _ _ C wr => ∃ j : Nat, C = .int .i64 (j : Int) ∧ j ≤ 5 ∧ T = .int .i64 (lenTo tl ks j) ∧ Aside0 (Below w.heap.size w wr)) (fun _ _ _ C _ => 5 - (intOf C).toNat)
  case atStart => exact ⟨0, rfl, by decide, rfl, ⟨Below.refl _ _⟩⟩
  case round =>
    clear x2 x3 x4 x5 x6
    obtain ⟨j, rfl, hj, rfl, hB⟩ := hrel
    obtain ⟨L, hL⟩ : ∃ L, lenTo tl ks j = L := ⟨_, rfl⟩
    have HL := Aside0.mk hL
    rw [hL]
    clear hL
    by_cases hin : j < 5
    · have hnb : decide ((j : Int) < 5) = true := decide_eq_true (by omega)
      have hnc : decide (j < 5) = true := decide_eq_true hin
      have i0 : 0 ≤ (j : Int) := by omega
      have i1 : (j : Int) < 5 := by omega
      obtain ⟨v, hv⟩ : ∃ v, cntK tl (j : Int) = v := ⟨_, rfl⟩
      have hidx : ∀ w, (Instr.index 88 (.agg #[.int .i64 n0, .int .i64 n1, .int .i64 n2, .int .i64 n3, .int .i64 n4]) (.int .i64 (j : Int))).run Tryd.prog w = .ok (.int .i64 v) w := fun w => by
        obtain ⟨q0, q1, q2, q3, q4⟩ := HN.out
        have : j = 0 ∨ j = 1 ∨ j = 2 ∨ j = 3 ∨ j = 4 := by omega
        rcases this with rfl | rfl | rfl | rfl | rfl
        · rw [← (q0.symm.trans hv)]; exact ix0 _ _ _ _ _ w
        · rw [← (q1.symm.trans hv)]; exact ix1 _ _ _ _ _ w
        · rw [← (q2.symm.trans hv)]; exact ix2 _ _ _ _ _ w
        · rw [← (q3.symm.trans hv)]; exact ix3 _ _ _ _ _ w
        · rw [← (q4.symm.trans hv)]; exact ix4 _ _ _ _ _ w
      have hstep : lenTo tl ks (j + 1) = L + if ks = [] ∨ (j : Int) ∈ ks then v else 0 := by rw [lenTo, HL.out, hv]
      have hbd := lenTo_bd tl ks (j + 1)
      rw [hstep] at hbd
      have hbd2 : ((j + 1 : Nat) : Int) * (tl.length : Int) ≤ 5 * 1000 := Int.mul_le_mul (by omega) (by have := HLn.out; omega) (by omega) (by decide)
      have Hst := Aside0.mk hstep
      have Hbd := Aside0.mk (And.intro hbd hbd2)
      have hw : Aside0 (wrap64 ((j : Int) + 1) = ((j + 1 : Nat) : Int)) := ⟨by unfold wrap64; omega⟩
      have Hin := Aside0.mk hin
      clear hin hj hv hstep hbd hbd2
      replace i0 := eq_true i0
      replace i1 := eq_true i1
      by_cases hk : ks = []
      · subst hk
        have hws : wrap64 (L + v) = L + v := by have := Hbd.out; rw [if_pos (.inl rfl)] at this; unfold wrap64; omega
        go_wp2_with fail
        go_roundw
        case rel => exact ⟨j + 1, by rw [hw.out], Hin.out, by rw [Hst.out, if_pos (.inl rfl), hws], hB⟩
        case measure => exact msr hw.out Hin.out
      · have hz : ((ks.length : Int) == 0) = false := by simpa using hk
        have hz2 : (ks.length == 0) = false := by simpa using hk
        have Hk := Aside0.mk hk
        by_cases hm : (j : Int) ∈ ks
        · have hws : wrap64 (L + v) = L + v := by have := Hbd.out; rw [if_pos (.inr hm)] at this; unfold wrap64; omega
          have Hm := Aside0.mk hm
          clear hk hm
          go_wp2_with fail
          refine (containsI_any (j : Int) (HU.out.below hB.out)).mono ?_
          rintro e w1 ⟨rfl, h1⟩
          rw [decide_eq_true Hm.out]
          go_wp2_with fail
          go_roundw
          case rel => exact ⟨j + 1, by rw [hw.out], Hin.out, by rw [Hst.out, if_pos (.inr Hm.out), hws], ⟨bel_trans hB.out h1⟩⟩
          case measure => exact msr hw.out Hin.out
        · have Hm := Aside0.mk hm
          clear hk hm
          go_wp2_with fail
          refine (containsI_any (j : Int) (HU.out.below hB.out)).mono ?_
          rintro e w1 ⟨rfl, h1⟩
          rw [decide_eq_false Hm.out]
          go_wp2_with fail
          go_roundw
          case rel => exact ⟨j + 1, by rw [hw.out], Hin.out, by rw [Hst.out, if_neg (by rintro (h | h); exact Hk.out h; exact Hm.out h), Int.add_zero], ⟨bel_trans hB.out h1⟩⟩
          case measure => exact msr hw.out Hin.out
    · have hnb : decide ((j : Int) < 5) = false := decide_eq_false (by omega)
      have hnc : decide (j < 5) = false := decide_eq_false hin
      obtain rfl : j = 5 := by omega
      clear hin hj
      go_wp2
      go_ret
      exact ⟨by rw [← Hs.out, lenN, HL.out]; rfl, hB.out⟩
end Go.Proofs.YtkbbliicijnpjaaDoor.Tx
end

/- Vh: nodes: plain laws of Len, Id and Find; a slice of nodes, read. -/
section
namespace Go.Proofs.YtkbbliicijnpjaaDoor.Tx
open Go.RowKit Go.Proofs.YtkbbliicijnpjaaDoorW.PrintWords Go.Proofs.YtkbbliicijnpjaaDoorW.PrintLast Go.Proofs.YtkbbliicijnpjaaDoorW.PrintMore
open Go.Proofs.YtkbbliicijnpjaaDoor.Base Go.Proofs.YtkbbliicijnpjaaDoor.Map Go.Proofs.YtkbbliicijnpjaaDoor.Ca Go.Proofs.YtkbbliicijnpjaaDoor.Qu Go.Proofs.YtkbbliicijnpjaaDoor.In Go.Proofs.YtkbbliicijnpjaaDoor.Kx Go.Maps Go.Proofs.YtkbbliicijnpjaaDoor.PNodeIds
set_option linter.unusedVariables false

theorem lenN_nil (tl : List (List Int)) : lenN tl [] = cntK tl 0 + cntK tl 1 + cntK tl 2 + cntK tl 3 + cntK tl 4 := by
  simp [lenN, lenTo]
theorem lenN_all (tl : List (List Int)) : lenN tl [0, 1, 2, 3, 4] = lenN tl [] := by
  simp [lenN, lenTo]
theorem lenN_one (tl : List (List Int)) (k : Nat) (hk : k < 5) : lenN tl [(k : Int)] = cntK tl (k : Int) := by
  have : k = 0 ∨ k = 1 ∨ k = 2 ∨ k = 3 ∨ k = 4 := by omega
  rcases this with rfl | rfl | rfl | rfl | rfl <;> simp [lenN, lenTo]
/-- the kinds below k together -/
def sumK (tl : List (List Int)) : Nat → Int
  | 0 => 0
  | k + 1 => sumK tl k + cntK tl (k : Int)
theorem sumK_5 (tl : List (List Int)) : sumK tl 5 = lenN tl [] := by
  rw [lenN_nil]; simp [sumK]
theorem sumK_bd (tl : List (List Int)) : ∀ j : Nat, j ≤ 5 → 0 ≤ sumK tl j ∧ sumK tl j ≤ 5 * (tl.length : Int) := by
  intro j hj
  have h0 := cntK_le tl 0
  have h1 := cntK_le tl 1
  have h2 := cntK_le tl 2
  have h3 := cntK_le tl 3
  have h4 := cntK_le tl 4
  have : j = 0 ∨ j = 1 ∨ j = 2 ∨ j = 3 ∨ j = 4 ∨ j = 5 := by omega
  rcases this with rfl | rfl | rfl | rfl | rfl | rfl <;> simp [sumK] <;> omega
theorem okN_pl {k a b c : Int} (h : okN k a b c = true) : ∃ r1 r2 r3 r4, tup k a b c = [r1, r2, r3, r4] ∧ 0 ≤ r1 ∧ r1 < 5 := by
  obtain ⟨r1, r2, r3, r4, r5, hpl⟩ : ∃ r1 r2 r3 r4 r5, pl k a b c = (r1, r2, r3, r4, r5) := ⟨_, _, _, _, _, rfl⟩
  unfold okN at h
  rw [hpl] at h
  obtain rfl : r5 = true := h
  exact ⟨r1, r2, r3, r4, by unfold tup; rw [hpl], (pl_again hpl).2⟩
theorem lenN_bd (tl : List (List Int)) (ks : List Int) (h : tl.length ≤ 1000) : 0 ≤ lenN tl ks ∧ lenN tl ks ≤ 5000 := by
  have := lenTo_bd tl ks 5
  unfold lenN
  omega
/-- what a round tells of a node -/
theorem node_round (tl : List (List Int)) (k a b c : Int) :
    (okN k a b c = false ∧ idN tl k a b c = -1 ∧ tlN tl k a b c = tl) ∨
    (okN k a b c = true ∧ 0 ≤ idN tl k a b c ∧ (findN tl k a b c).2 = true ∧ tlN tl k a b c = tl) ∨
    (okN k a b c = true ∧ 0 ≤ idN tl k a b c ∧ (findN tl k a b c).2 = false ∧ tlN tl k a b c = tl ++ [tup k a b c] ∧ lenN (tl ++ [tup k a b c]) [] = lenN tl [] + 1) := by
  cases ho : okN k a b c with
  | false => exact .inl ⟨rfl, by unfold idN; rw [ho]; rfl, by unfold tlN; rw [ho]; rfl⟩
  | true =>
    refine .inr ?_
    obtain ⟨r1, r2, r3, r4, ht, h0, h5⟩ := okN_pl ho
    have hid : 0 ≤ idN tl k a b c := by
      unfold idN idOf
      rw [ho, ht, if_pos rfl, if_neg (by simp)]
      omega
    have hf : (findN tl k a b c).2 = decide (tup k a b c ∈ tl) := by
      unfold findN
      rw [ho, if_pos rfl, findOf_iff tl _ (by rw [ht]; simp)]
    by_cases hm : tup k a b c ∈ tl
    · exact .inl ⟨rfl, hid, by rw [hf, decide_eq_true hm], by unfold tlN idL; rw [ho, if_pos rfl, if_pos (.inr hm)]⟩
    · have hn : ¬ (8 < (tup k a b c).length ∨ tup k a b c ∈ tl) := by
        rintro (h | h)
        · rw [ht] at h; simp at h
        · exact hm h
      refine .inr ⟨rfl, hid, by rw [hf, decide_eq_false hm], by unfold tlN idL; rw [ho, if_pos rfl, if_neg hn], ?_⟩
      rw [lenN_nil, lenN_nil, cntK_snoc, cntK_snoc, cntK_snoc, cntK_snoc, cntK_snoc, ht]
      show cntK tl 0 + (if r1 = 0 then 1 else 0) + (cntK tl 1 + if r1 = 1 then 1 else 0) + (cntK tl 2 + if r1 = 2 then 1 else 0) + (cntK tl 3 + if r1 = 3 then 1 else 0) + (cntK tl 4 + if r1 = 4 then 1 else 0) = _
      have : r1 = 0 ∨ r1 = 1 ∨ r1 = 2 ∨ r1 = 3 ∨ r1 = 4 := by omega
      rcases this with rfl | rfl | rfl | rfl | rfl <;> simp <;> omega
theorem tlN_len (tl : List (List Int)) (k a b c : Int) : (tlN tl k a b c).length ≤ tl.length + 1 := by
  rcases node_round tl k a b c with ⟨_, _, h⟩ | ⟨_, _, _, h⟩ | ⟨_, _, _, h, _⟩ <;> rw [h] <;> simp

/-- A slice of nodes, read. -/
structure RdN (w : World) (A : Option Addr) (l : List S46) : Prop where mk :: (out : Kd.C k46 w A l.length l)
theorem RdN.below {w w1 : World} {A : Option Addr} {l : List S46} (h : RdN w A l) (hb : Below w.heap.size w w1) : RdN w1 A l := ⟨Kd.C_below h.out hb⟩
/-- four whole numbers in range -/
def okS (x : S46) : Prop := (Lit.int .i64 x.f1).wf = true ∧ (Lit.int .i64 x.f2).wf = true ∧ (Lit.int .i64 x.f3).wf = true
end Go.Proofs.YtkbbliicijnpjaaDoor.Tx
end
