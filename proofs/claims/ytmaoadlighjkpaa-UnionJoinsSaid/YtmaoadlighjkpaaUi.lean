/- UnionTwo, walked. -/
import Derived.Test.YtmaoadlighjkpaaUh
namespace Go.Proofs.Ytmaoadlighjkpaa.Un
open Go.RowKit Go.Proofs.YtmaoadlighjkpaaW.PrintWords Go.Proofs.YtmaoadlighjkpaaW.PrintLast Go.Proofs.YtmaoadlighjkpaaW.PrintMore
open Go.Proofs.Ytmaoadlighjkpaa.Base Go.Proofs.Ytmaoadlighjkpaa.Map Go.Proofs.Ytmaoadlighjkpaa.Qu Go.Proofs.Ytmaoadlighjkpaa.In
set_option linter.unusedVariables false
attribute [local go_sem] max2_int min2_int max_two min_two

theorem same_two (hs : List Int) (a b : Nat) (ha : a < hs.length) (hb : b < hs.length) : sameB hs [(a : Int), (b : Int)] = decide (rd hs a = rd hs b) := by
  unfold sameB
  apply Bool.eq_iff_iff.2
  rw [decide_eq_true_iff, decide_eq_true_iff]
  constructor
  · intro h
    have := (h 1 (by simp)).2
    simpa [rd] using this.symm
  · intro h k hk
    have : k = 0 ∨ k = 1 := by simp at hk; omega
    rcases this with rfl | rfl
    · exact ⟨by simp [rd]; omega, rfl⟩
    · refine ⟨by simp [rd]; omega, ?_⟩
      simpa [rd] using h.symm
theorem join_two (hs : List Int) (a b : Nat) (ha : a < hs.length) (hb : b < hs.length) : joinS hs [(a : Int), (b : Int)] = joinL hs a b := by
  unfold joinS
  rw [if_pos]
  · simp [foldJ, rd]
  · intro k hk
    have : k = 0 ∨ k = 1 := by simp at hk; omega
    rcases this with rfl | rfl <;> (simp [rd]; omega)
theorem join_ne {hs : List Int} (hc : Canon hs) {a b : Nat} (ha : a < hs.length) (hb : b < hs.length) : decide (joinL hs a b ≠ hs) = !decide (rd hs a = rd hs b) := by
  by_cases h : rd hs a = rd hs b
  · rw [joinL_same hs a b h]; simp [h]
  · have := cnt_join hc ha hb h
    have h2 : joinL hs a b ≠ hs := fun e => by rw [e] at this; omega
    simp [h, h2]
theorem join_both {hs : List Int} (a b : Nat) (ha : a < hs.length) (hb : b < hs.length) : rd (joinL hs a b) a = min (rd hs a) (rd hs b) ∧ rd (joinL hs a b) b = min (rd hs a) (rd hs b) := by
  rw [joinL_rd hs a b a ha, joinL_rd hs a b b hb]
  constructor <;> (split <;> omega)

/-- what UnionTwo looks at, a pair -/
theorem two_facts {hs : List Int} (hc : Canon hs) {a b : Nat} (ha : a < hs.length) (hb : b < hs.length) : ∃ (was : Bool) (h : Int) (hs' : List Int), sameB hs [(a : Int), (b : Int)] = was ∧ joinS hs [(a : Int), (b : Int)] = hs' ∧ decide (hs' ≠ hs) = (!was) ∧
    sameB hs' [(b : Int), (a : Int)] = true ∧ headOf hs' a = h ∧ headOf hs' b = h ∧ h ≤ a ∧ h ≤ b ∧ hs'.length = hs.length ∧ (was = true → cntOf hs' = cntOf hs) ∧ (was = false → cntOf hs = cntOf hs' + 1) := by
  have hl := joinL_len hs a b
  have hbo := join_both a b ha hb
  obtain ⟨x, x1, x2, _⟩ := hc.at_ a ha
  obtain ⟨y, y1, y2, _⟩ := hc.at_ b hb
  refine ⟨_, min (rd hs a) (rd hs b), joinL hs a b, same_two hs a b ha hb, join_two hs a b ha hb, join_ne hc ha hb, ?_, ?_, ?_, by omega, by omega, hl, ?_, ?_⟩
  · rw [same_two _ b a (by omega) (by omega), hbo.1, hbo.2]; simp
  · unfold headOf; rw [if_pos (by omega)]; exact hbo.1
  · unfold headOf; rw [if_pos (by omega)]; exact hbo.2
  · intro h; rw [joinL_same hs a b (of_decide_eq_true h)]
  · intro h; exact cnt_join hc ha hb (of_decide_eq_false h)

/-- a pair of small numbers in a row -/
def kP : Kd (Int × Int) where
  sz := 2
  E := []
  K := fun _ x cs => cs = [.int .u8 x.1, .int .u8 x.2] ∧ (0 ≤ x.1 ∧ x.1 ≤ 255) ∧ (0 ≤ x.2 ∧ x.2 ≤ 255)
  M := fun _ _ _ x cs => cs = [.int .u8 x.1, .int .u8 x.2] ∧ (0 ≤ x.1 ∧ x.1 ≤ 255) ∧ (0 ≤ x.2 ∧ x.2 ≤ 255)
  K_len := fun h => by rw [h.1]; rfl
  K_one := fun h u hu => by rw [h.1] at hu; rcases List.mem_cons.1 hu with rfl | hu; rfl; rw [List.mem_singleton.1 hu]; rfl
  K_below := fun _ h => h
  K_of_M := fun h => h
  M_mono := fun _ h => h
  M_bound := fun h => h
  M_move := fun _ h => h
  M_lower := fun _ h => h
theorem add_more (a : Addr) (k i : Nat) : a.add (k + (i + 1)) = ⟨(a.add k).block, (a.add k).off + (i + 1), none⟩ := by
  unfold Addr.add
  by_cases h : k = 0
  · subst h; simp
  · simp [h]; omega
abbrev RdP (w : World) (A : Option Addr) (l : List (Int × Int)) : Prop := Kd.C kP w A l.length l
theorem RdP.at_ {w : World} {A : Option Addr} {l : List (Int × Int)} (h : RdP w A l) (i : Nat) (hi : i < l.length) :
    ∃ ad x y, A = some ad ∧ l[i] = (x, y) ∧ (0 ≤ x ∧ x ≤ 255) ∧ (0 ≤ y ∧ y ≤ 255) ∧ w.cell? (ad.add (i * 2)) = some (.int .u8 x) ∧ w.cell? ⟨(ad.add (i * 2)).block, (ad.add (i * 2)).off + 1, none⟩ = some (.int .u8 y) := by
  obtain ⟨ad, rfl, hat⟩ := h.2.2 (by omega)
  have e : l[i]? = some l[i] := by simp [hi]
  obtain ⟨c, hcl, ⟨rfl, hx, hy⟩, hcc⟩ := hat i _ e
  refine ⟨ad, l[i].1, l[i].2, rfl, rfl, hx, hy, hcc 0 _ rfl, ?_⟩
  have := hcc 1 _ rfl
  rw [← this]
  exact (congrArg w.cell? (add_more ad (i * 2) 0)).symm

set_option maxHeartbeats 8000000 in
set_option maxRecDepth 100000 in
theorem unionTwo_walk (n : Int) (ps : List (Int × Int)) (A : Option Addr) (c : Nat) (w : World) (hn0 : 0 ≤ n) (hn1 : n ≤ 255) (hc : ps.length ≤ c) (hr : RdP w A ps) :
    Calls Try.prog 12 #[.int .u8 n, .slice A ps.length c] w fun e w' => e = .returned (.bool true) ∧ Below w.heap.size w w' := by
  by_cases h60 : (60 : Int) < ps.length
  · go_enter Try.func12, Try.ntmps12
    go_wp2_with fail
    refine (awake_un _).mono ?_
    rintro e w1 ⟨rfl, h1⟩
    go_wp2_with fail
    refine (awake_un _).mono ?_
    rintro e w2 ⟨rfl, h2⟩
    go_wp2
    go_ret
    exact ⟨rfl, bel_trans h1 h2⟩
  · obtain ⟨k, hk⟩ : ∃ k : Nat, 1 + n % 60 = (k : Int) := ⟨(1 + n % 60).toNat, by omega⟩
    have hk0 : 0 < k := by omega
    have hk1 : k ≤ 60 := by omega
    have Hc := Aside0.mk hc
    clear hc
    go_enter Try.func12, Try.ntmps12
    go_wp2_with fail
    refine (awake_un _).mono ?_
    rintro e w1 ⟨rfl, h1⟩
    go_wp2_with fail
    refine (new_ut w w1 h1 k (by omega)).mono ?_
    rintro e w2 ⟨rfl, h2⟩
    have hl2 := rng_len k
    generalize w1.heap.size = p at *
    generalize rngL k = hs0 at *
    clear hk
    go_wp2_with fail
    go_loopw [8] (fun I wr => ∃ (i : Nat) (hs : List Int), I = .int .i64 (i : Int) ∧ i ≤ ps.length ∧ hs.length = k ∧ UT w wr p hs) (fun i _ => ps.length - (intOf i).toNat)
    case atStart => exact ⟨0, hs0, rfl, Nat.zero_le _, hl2, h2⟩
    case round =>
      clear h2 hl2
      obtain ⟨i, hs, rfl, hi, hl, hQ⟩ := hrel
      by_cases hlt : i < ps.length
      · obtain ⟨ad, x, y, hA, hxy, hx0, hy0, cx, cy⟩ := RdP.at_ hr i hlt
        have hB := hQ.bel
        have cx := pw_cell_below (w := w) hB cx
        have cy := pw_cell_below (w := w) hB cy
        subst hA
        clear hxy
        have i0 : (0 : Int) ≤ (i : Int) := by omega
        have i1 : (i : Int) < (ps.length : Int) := by omega
        obtain ⟨x0, x1⟩ := hx0
        obtain ⟨y0, y1⟩ := hy0
        have k0 : (0 : Int) < (k : Int) := by omega
        obtain ⟨a, ha⟩ : ∃ a : Nat, x % (k : Int) = (a : Int) := ⟨(x % (k : Int)).toNat, by have := Int.emod_nonneg x (show (k : Int) ≠ 0 by omega); omega⟩
        obtain ⟨b, hb⟩ : ∃ b : Nat, y % (k : Int) = (b : Int) := ⟨(y % (k : Int)).toNat, by have := Int.emod_nonneg y (show (k : Int) ≠ 0 by omega); omega⟩
        have hak : a < hs.length := by have := Int.emod_lt_of_pos x k0; omega
        have hbk : b < hs.length := by have := Int.emod_lt_of_pos y k0; omega
        obtain ⟨was, h, hs', f1, f2, f3, f4, f5, f6, f7, f8, f9, f10, f11⟩ := two_facts hQ.can hak hbk
        have F1 := Aside0.mk f1
        have F2 := Aside0.mk f2
        have F3 := Aside0.mk f3
        have F4 := Aside0.mk f4
        have F5 := Aside0.mk f5
        have F6 := Aside0.mk f6
        have Hl := Aside0.mk hl
        have hcl := cnt_le hs
        have hcl' := cnt_le hs'
        have hc0 : (0 : Int) ≤ (cntOf hs : Int) := by omega
        have hc1 : (cntOf hs : Int) ≤ 1000 := by omega
        have H9 := Aside0.mk (f9.trans hl)
        have hm : hs.length ≤ 1000000 := by omega
        have Hlt := Aside0.mk hlt
        have mn0 : ¬ (if (b : Int) < (a : Int) then (b : Int) else (a : Int)) < h := by split <;> omega
        clear f1 f2 f3 f4 f5 f6 f9 hl hcl hcl' hak hbk hlt
        obtain ⟨cn, hcn⟩ : ∃ c, cntOf hs = c := ⟨_, rfl⟩
        obtain ⟨cn', hcn'⟩ : ∃ c, cntOf hs' = c := ⟨_, rfl⟩
        rw [hcn] at hc0 hc1 f10 f11
        rw [hcn'] at f10 f11
        have Hcn := Aside0.mk hcn
        have Hcn' := Aside0.mk hcn'
        clear hcn hcn'
        have mn1 : ¬ (if (a : Int) < (b : Int) then (a : Int) else (b : Int)) < h := by split <;> omega
        cases was
        · have hcc : (cn : Int) = (cn' : Int) + 1 := by have := f11 rfl; omega
          clear f10 f11
          go_wp2_with fail
          go_quiet (fail)
          rw [ha, hb]
          have hQ := hQ.drewN nq
          generalize wr.drewN nq = w5 at *
          clear ha hb cx cy
          go_wp2_with fail
          refine (same_lit w w5 p hs [(a : Int), (b : Int)] hQ (by simp)).mono ?_
          rintro e w6 ⟨rfl, h6⟩
          rw [F1.out]
          clear hQ
          go_wp2_with fail
          refine (count_ut w w6 p hs h6).mono ?_
          rintro e w7 ⟨rfl, rfl⟩
          rw [Hcn.out]
          go_wp2_with fail
          refine (join_lit w w6 p hs [(a : Int), (b : Int)] h6 (by simp) hm).mono ?_
          rintro e w7 ⟨rfl, h7⟩
          rw [F2.out] at h7 ⊢
          rw [F3.out]
          go_wp2_with fail
          refine (same_lit w w7 p hs' [(b : Int), (a : Int)] h7 (by simp)).mono ?_
          rintro e w8 ⟨rfl, h8⟩
          rw [F4.out]
          go_wp2_with fail
          refine (head_ut w w8 p hs' (a : Int) h8).mono ?_
          rintro e w9 ⟨rfl, h9⟩
          rw [F5.out]
          go_wp2_with fail
          refine (head_ut w w9 p hs' (b : Int) h9).mono ?_
          rintro e w10 ⟨rfl, h10⟩
          rw [F6.out]
          go_wp2_with fail
          refine (head_ut w w10 p hs' (a : Int) h10).mono ?_
          rintro e w11 ⟨rfl, h11⟩
          rw [F5.out]
          go_wp2_with fail
          all_goals
            refine (count_ut w w11 p hs' h11).mono ?_
            rintro e w12 ⟨rfl, rfl⟩
            rw [Hcn'.out]
            clear h6 h7 h8 h9 h10
            go_wp2_with fail
            go_roundw
            case rel => exact ⟨i + 1, hs', by go_num, by have := Hlt.out; omega, H9.out, h11⟩
            case measure => have := Hlt.out; simp [intOf]; omega
        · have hcc : cn' = cn := f10 rfl
          subst hcc
          clear f10 f11
          go_wp2_with fail
          go_quiet (fail)
          rw [ha, hb]
          have hQ := hQ.drewN nq
          generalize wr.drewN nq = w5 at *
          clear ha hb cx cy
          go_wp2_with fail
          refine (same_lit w w5 p hs [(a : Int), (b : Int)] hQ (by simp)).mono ?_
          rintro e w6 ⟨rfl, h6⟩
          rw [F1.out]
          clear hQ
          go_wp2_with fail
          refine (count_ut w w6 p hs h6).mono ?_
          rintro e w7 ⟨rfl, rfl⟩
          rw [Hcn.out]
          go_wp2_with fail
          refine (join_lit w w6 p hs [(a : Int), (b : Int)] h6 (by simp) hm).mono ?_
          rintro e w7 ⟨rfl, h7⟩
          rw [F2.out] at h7 ⊢
          rw [F3.out]
          go_wp2_with fail
          refine (same_lit w w7 p hs' [(b : Int), (a : Int)] h7 (by simp)).mono ?_
          rintro e w8 ⟨rfl, h8⟩
          rw [F4.out]
          go_wp2_with fail
          refine (head_ut w w8 p hs' (a : Int) h8).mono ?_
          rintro e w9 ⟨rfl, h9⟩
          rw [F5.out]
          go_wp2_with fail
          refine (head_ut w w9 p hs' (b : Int) h9).mono ?_
          rintro e w10 ⟨rfl, h10⟩
          rw [F6.out]
          go_wp2_with fail
          refine (head_ut w w10 p hs' (a : Int) h10).mono ?_
          rintro e w11 ⟨rfl, h11⟩
          rw [F5.out]
          go_wp2_with fail
          all_goals
            refine (count_ut w w11 p hs' h11).mono ?_
            rintro e w12 ⟨rfl, rfl⟩
            rw [Hcn'.out]
            clear h6 h7 h8 h9 h10
            go_wp2_with fail
            go_roundw
            case rel => exact ⟨i + 1, hs', by go_num, by have := Hlt.out; omega, H9.out, h11⟩
            case measure => have := Hlt.out; simp [intOf]; omega
      · go_wp2
        go_ret
        exact ⟨rfl, hQ.bel⟩
end Go.Proofs.Ytmaoadlighjkpaa.Un
