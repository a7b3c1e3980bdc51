/- lex: LexJoins' walk. -/
import Derived.Test.YtmaoadlighjkpaaLq
namespace Go.Proofs.Ytmaoadlighjkpaa.Lx
open Go.RowKit Go.Proofs.YtmaoadlighjkpaaW.PrintWords Go.Proofs.YtmaoadlighjkpaaW.PrintLast Go.Proofs.YtmaoadlighjkpaaW.PrintMore
open Go.Proofs.Ytmaoadlighjkpaa.Base Go.Proofs.Ytmaoadlighjkpaa.PLexTokens Go.Proofs.Ytmaoadlighjkpaa.Map
set_option linter.unusedVariables false

theorem lenAll_take (l : List S116) (i : Nat) : lenAll (l.take i) ≤ lenAll l := by
  induction l generalizing i with
  | nil => simp [lenAll]
  | cons x l ih =>
    cases i with
    | zero => exact Nat.zero_le _
    | succ i =>
      have := ih i
      simp only [lenAll, List.take_succ_cons, List.map_cons, List.sum_cons] at this ⊢
      omega
theorem lenAll_get (l : List S116) (i : Nat) (h : i < l.length) : (rd_T116 l (i : Int)).f1.size ≤ lenAll l := by
  induction l generalizing i with
  | nil => simp at h
  | cons x l ih =>
    cases i with
    | zero => exact Nat.le_add_right _ _
    | succ i =>
      have := ih i (by simp at h; omega)
      have e : rd_T116 (x :: l) ((i + 1 : Nat) : Int) = rd_T116 l (i : Int) := by simp [rd_T116]
      rw [e]
      simp only [lenAll, List.map_cons, List.sum_cons] at this ⊢
      omega
theorem take_snoc (l : List S116) (i : Nat) (h : i < l.length) : l.take (i + 1) = l.take i ++ [rd_T116 l (i : Int)] := by
  rw [List.take_succ_eq_append_getElem h]
  congr 2
  simp [rd_T116, List.getD, List.getElem?_eq_getElem h]
theorem join_more (G : ByteArray) (l : List S116) (i : Nat) (h : i < l.length) : (G ++ joinR G (l.take i)) ++ (rd_T116 l (i : Int)).f1 ++ G = G ++ joinR G (l.take (i + 1)) := by
  rw [take_snoc l i h, joinR_snoc]
  simp only [app_assoc]
theorem join_small (G : ByteArray) (hG : G.size ≤ 7) (l : List S116) (h1 : lenAll l ≤ 400) (h2 : l.length ≤ 400) (i : Nat) : (G ++ joinR G (l.take i)).size ≤ 4000 := by
  have h3 := joinR_size G hG (l.take i)
  have h4 := lenAll_take l i
  have h5 : (l.take i).length ≤ l.length := by rw [List.length_take]; omega
  rw [app_size]
  omega

/-- which gap -/
def gapOf (j : Int) : ByteArray := if j = 0 then { data := #[32] } else if j = 1 then { data := #[10] } else if j = 2 then { data := #[9, 32, 13] } else { data := #[32, 35, 32, 120, 32, 59, 10] }
theorem gap_of (j : Int) : Gap (gapOf j) := by
  unfold gapOf
  split
  · exact gap0
  · split
    · exact gap1
    · split
      · exact gap2
      · exact gap3

attribute [local go_sem high] eqA107 eqA109 eqA116
set_option maxHeartbeats 4000000 in
set_option maxRecDepth 100000 in
theorem lexJoins_walk (s : ByteArray) (b : Int) (w : World) (hb0 : 0 ≤ b) (hb1 : b ≤ 255) : Calls Try.prog 19 #[.string s, .int .u8 b] w fun e w' => e = .returned (.bool true) ∧ Below w.heap.size w w' := by
  by_cases hs : (400 : Int) < (s.size : Int)
  · go_enter Try.func19, Try.ntmps19
    go_wp2_with fail
    refine (awake_any _).mono ?_
    rintro e w1 ⟨rfl, h1⟩
    go_wp2_with fail
    refine (awake_any _).mono ?_
    rintro e w2 ⟨rfl, h2⟩
    go_wp2
    go_ret
    exact ⟨rfl, bel_trans h1 h2⟩
  · have hu107 := Try.underlying107
    have hu109 := Try.underlying109
    have hu116 := Try.underlying116
    go_enter Try.func19, Try.ntmps19
    go_wp2_with fail
    refine (awake_any _).mono ?_
    rintro e w1 ⟨rfl, h1⟩
    go_wp2_with fail
    refine (tokens_any _ _).mono ?_
    rintro e w2 ⟨v, ⟨l, p1, p2, e0, e1, e2⟩, rfl, hT, hR, hB⟩
    obtain ⟨A, c, rfl, hc, hC⟩ := Kd.R_reads hR
    have hm := Kd.C_max hC
    simp only at hm hC hc
    have HT := Aside0.mk hT
    have HC := Aside0.mk hC
    have Hc := Aside0.mk hc
    have Hm := Aside0.mk hm
    have HB := Aside0.mk (bel_trans h1 hB)
    have Hs := Aside0.mk hs
    clear hT hR hC hc hm hB h1 hs
    go_upto_region 4 with (fail)
    obtain ⟨B1, B2, B3⟩ := two_new w2 #[.int .i64 p1, .int .i64 p2] #[.int .i64 e0, .int .i64 e1, .int .i64 e2] 107 109
    replace HB := Aside0.mk (HB.out.trans (below_low B3 HB.out.size))
    replace HC := Aside0.mk (Kd.C_below HC.out B3)
    obtain ⟨g4, hg4⟩ : ∃ g4, w2.heap.size = g4 := ⟨_, rfl⟩
    obtain ⟨g5, hg5⟩ : ∃ g5, g4 + 1 = g5 := ⟨_, rfl⟩
    rw [hg4] at B1 B2 B3 ⊢
    rw [hg5] at B2 ⊢
    generalize (w2.alloc (.cells #[.int .i64 p1, .int .i64 p2] 107)).alloc (.cells #[.int .i64 e0, .int .i64 e1, .int .i64 e2] 109) = W at *
    have c20 := cell_of B2 0 _ rfl
    clear B1 B2 B3 hg4 hg5
    by_cases he : e0 = 0
    · subst he
      go_upto_region 6 with (fail)
      clear c20
      have j0 : 0 ≤ b % 4 := by omega
      have j1 : b % 4 < 4 := by omega
      have r1 : b.tmod 4 = b % 4 := Int.tmod_eq_emod_of_nonneg hb0
      have r2 : IntKind.u8.wrap (b % 4) = b % 4 := by rw [IntKind.wrap_u8]; omega
      have r3 : (#[Value.string { data := #[32] }, Value.string { data := #[10] }, Value.string { data := #[9, 32, 13] }, Value.string { data := #[32, 35, 32, 120, 32, 59, 10] }] : Array Value)[(b % 4).toNat]? = some (.string (gapOf (b % 4))) := by
        have : b % 4 = 0 ∨ b % 4 = 1 ∨ b % 4 = 2 ∨ b % 4 = 3 := by omega
        rcases this with h | h | h | h <;> rw [h] <;> rfl
      go_upto_region 7 with (fail)
      have r4 : ∀ h, ([Value.string { data := #[32] }, Value.string { data := #[10] }, Value.string { data := #[9, 32, 13] }, Value.string { data := #[32, 35, 32, 120, 32, 59, 10] }] : List Value)[(b % 4).toNat]'h = .string (gapOf (b % 4)) := fun h => by
        have : b % 4 = 0 ∨ b % 4 = 1 ∨ b % 4 = 2 ∨ b % 4 = 3 := by omega
        clear r3 r2 r1 j0 j1
        generalize b % 4 = j at *
        rcases this with rfl | rfl | rfl | rfl <;> rfl
      simp only [r4]
      obtain ⟨G, hG⟩ : ∃ G, gapOf (b % 4) = G := ⟨_, rfl⟩
      have HG := Aside0.mk (gap_of (b % 4))
      rw [hG] at HG ⊢
      have HB3 := below_alloc (Below.refl W.heap.size W) (.cells #[Value.string { data := #[32] }, Value.string { data := #[10] }, Value.string { data := #[9, 32, 13] }, Value.string { data := #[32, 35, 32, 120, 32, 59, 10] }] 9)
      replace HB := Aside0.mk (HB.out.trans (below_low HB3 HB.out.size))
      replace HC := Aside0.mk (Kd.C_below HC.out HB3)
      generalize W.alloc (.cells #[Value.string { data := #[32] }, Value.string { data := #[10] }, Value.string { data := #[9, 32, 13] }, Value.string { data := #[32, 35, 32, 120, 32, 59, 10] }] 9) = W1 at *
      obtain ⟨hl1, hl2⟩ := join_le (by have := Hs.out; omega) HT.out
      have Hl1 := Aside0.mk hl1
      have Hl2 := Aside0.mk hl2
      clear r1 r2 r3 r4 j0 j1 hG HB3 hl1 hl2
      go_wp2_with fail
      go_loopw [9, 10] (fun T I wr => ∃ i : Nat, T = .string (G ++ joinR G (l.take i)) ∧ I = .int .i64 (i : Int) ∧ i ≤ l.length ∧ Aside0 (Below W1.heap.size W1 wr)) (fun _ I _ => l.length - (intOf I).toNat)
      case atStart => exact ⟨0, by rw [List.take_zero, joinR, app_nil], rfl, Nat.zero_le _, ⟨Below.refl _ _⟩⟩
      case round =>
        obtain ⟨i, rfl, rfl, hi, hBr⟩ := hrel
        obtain ⟨t1, ht1⟩ : ∃ t1, G ++ joinR G (l.take i) = t1 := ⟨_, rfl⟩
        have hz := join_small G HG.out.le l Hl1.out Hl2.out i
        rw [ht1] at hz ⊢
        by_cases hin : i < l.length
        · have hnb : decide ((i : Int) < (l.length : Int)) = true := decide_eq_true (by omega)
          have hnc : decide (i < l.length) = true := decide_eq_true hin
          obtain ⟨ad, rfl, x0, x1, x2, x3⟩ := at_T116 (Kd.C_below HC.out hBr.out) (i : Int) (by omega) (by omega)
          rw [Int.toNat_natCast] at x0 x1 x2 x3
          have i0 : 0 ≤ (i : Int) := by omega
          have i1 : (i : Int) < (l.length : Int) := by omega
          have hsz1 := lenAll_get l i hin
          obtain ⟨t2, ht2⟩ : ∃ t2, (rd_T116 l (i : Int)).f1 = t2 := ⟨_, rfl⟩
          rw [ht2] at hsz1 x1
          have n1 : ¬ (9223372036854775807 < t1.size + t2.size) := by have := Hl1.out; omega
          have n2 : ¬ (9223372036854775807 < (t1 ++ t2).size + G.size) := by have := Hl1.out; have := HG.out.le; rw [app_size]; omega
          have n3 : ¬ (9223372036854775807 < t1.size + t2.size + G.size) := by have := Hl1.out; have := HG.out.le; omega
          have hw : Aside0 (wrap64 ((i : Int) + 1) = ((i + 1 : Nat) : Int)) := ⟨by have := Hl2.out; unfold wrap64; omega⟩
          have Hin := Aside0.mk hin
          have Ht1 := Aside0.mk ht1
          have Ht2 := Aside0.mk ht2
          clear hin hz hsz1 ht1 ht2 hi
          replace i0 := eq_true i0
          replace i1 := eq_true i1
          go_wp2_with fail
          go_roundw
          case rel => exact ⟨i + 1, by rw [← Ht1.out, ← Ht2.out, join_more G l i Hin.out], by rw [hw.out], Hin.out, hBr⟩
          case measure => exact msr hw.out Hin.out
        · have hnb : decide ((i : Int) < (l.length : Int)) = false := decide_eq_false (by omega)
          have hnc : decide (i < l.length) = false := decide_eq_false hin
          obtain rfl : i = l.length := by omega
          rw [List.take_length] at ht1
          have Ht1 := Aside0.mk ht1
          replace HB := Aside0.mk (HB.out.trans (below_low hBr.out HB.out.size))
          replace HC := Aside0.mk (Kd.C_below HC.out hBr.out)
          clear hin hi ht1 hBr
          go_wp2_with fail
          refine (tokens_any _ _).mono ?_
          rintro e w3 ⟨v, r, rfl, hT2, hR2, hB2⟩
          obtain ⟨M, q1, q2, hA, rfl⟩ := join_tok (by have := Hs.out; omega) HG.out HT.out (show TokS (G ++ joinR G l) r by rw [Ht1.out]; exact hT2)
          obtain ⟨A2, c2, rfl, hc2, hC2⟩ := Kd.R_reads hR2
          simp only at hC2 hc2
          rw [← hA.len] at hC2 hc2 ⊢
          replace HB := Aside0.mk (bel_trans HB.out hB2)
          replace HC := Aside0.mk (Kd.C_below HC.out hB2)
          have HC2 := Aside0.mk hC2
          have HA := Aside0.mk hA
          clear hA hC2 hc2 hR2 hB2 hT2
          go_upto_region 13 with (fail)
          obtain ⟨B1, B2, B3⟩ := two_new w3 #[.int .i64 q1, .int .i64 q2] #[.int .i64 0, .int .i64 0, .int .i64 0] 107 109
          replace HB := Aside0.mk (HB.out.trans (below_low B3 HB.out.size))
          replace HC := Aside0.mk (Kd.C_below HC.out B3)
          replace HC2 := Aside0.mk (Kd.C_below HC2.out B3)
          obtain ⟨g6, hg6⟩ : ∃ g6, w3.heap.size = g6 := ⟨_, rfl⟩
          obtain ⟨g7, hg7⟩ : ∃ g7, g6 + 1 = g7 := ⟨_, rfl⟩
          rw [hg6] at B1 B2 B3 ⊢
          rw [hg7] at B2 ⊢
          generalize (w3.alloc (.cells #[.int .i64 q1, .int .i64 q2] 107)).alloc (.cells #[.int .i64 0, .int .i64 0, .int .i64 0] 109) = W2 at *
          have c20 := cell_of B2 0 _ rfl
          clear B1 B2 B3 hg6 hg7
          go_wp2_with fail
          clear c20
          go_loopw [14] (fun I wr => ∃ i : Nat, I = .int .i64 (i : Int) ∧ i ≤ l.length ∧ Drawn0 W2 wr) (fun I _ => l.length - (intOf I).toNat)
          case atStart => exact ⟨0, rfl, Nat.zero_le _, Drawn0.refl _⟩
          case round =>
            obtain ⟨i, rfl, hi, ⟨m, rfl⟩⟩ := hrel
            by_cases hin : i < l.length
            · have hnb : decide ((i : Int) < (l.length : Int)) = true := decide_eq_true (by omega)
              have hnc : decide (i < l.length) = true := decide_eq_true hin
              obtain ⟨ad, rfl, x0, x1, x2, x3⟩ := at_T116 HC.out (i : Int) (by omega) (by omega)
              obtain ⟨ad2, rfl, y0, y1, y2, y3⟩ := at_T116 HC2.out (i : Int) (by omega) (by omega)
              obtain ⟨f0, f1⟩ := HA.out.get i hin
              rw [← f0] at y0
              rw [← f1] at y1
              rw [Int.toNat_natCast] at x0 x1 y0 y1
              clear x2 x3 y2 y3 f0 f1
              have i0 : 0 ≤ (i : Int) := by omega
              have i1 : (i : Int) < (l.length : Int) := by omega
              have hw : Aside0 (wrap64 ((i : Int) + 1) = ((i + 1 : Nat) : Int)) := ⟨by have := Hl2.out; unfold wrap64; omega⟩
              have Hin := Aside0.mk hin
              clear hin hi
              replace i0 := eq_true i0
              replace i1 := eq_true i1
              go_wp2_with fail
              go_quiet (fail)
              go_wp2
              go_roundw
              case rel => exact ⟨i + 1, by rw [hw.out], Hin.out, by repeat (first | exact Drawn0.refl _ | apply Drawn0.step)⟩
              case measure => exact msr hw.out Hin.out
            · have hnb : decide ((i : Int) < (l.length : Int)) = false := decide_eq_false (by omega)
              have hnc : decide (i < l.length) = false := decide_eq_false hin
              clear hin hi
              go_wp2
              go_ret
              exact ⟨rfl, bel_trans HB.out (pw_below_drewN (Below.refl _ _) m)⟩
    · have he2 : (e0 == 0) = false := by simpa using he
      go_wp2
      go_ret
      exact ⟨rfl, HB.out⟩
end Go.Proofs.Ytmaoadlighjkpaa.Lx
