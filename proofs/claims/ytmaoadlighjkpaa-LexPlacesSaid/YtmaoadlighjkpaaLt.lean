/- lex: LexPlaces' walk. -/
import Derived.Test.YtmaoadlighjkpaaLs
namespace Go.Proofs.Ytmaoadlighjkpaa.Lx
open Go.RowKit Go.Proofs.YtmaoadlighjkpaaW.PrintWords Go.Proofs.YtmaoadlighjkpaaW.PrintLast Go.Proofs.YtmaoadlighjkpaaW.PrintMore
open Go.Proofs.Ytmaoadlighjkpaa.Base Go.Proofs.Ytmaoadlighjkpaa.PLexTokens Go.Proofs.Ytmaoadlighjkpaa.Map
set_option linter.unusedVariables false

theorem drop_get (l : List S116) (i : Nat) (h : i < l.length) : l.drop i = rd_T116 l (i : Int) :: l.drop (i + 1) := by
  rw [List.drop_eq_getElem_cons h]
  congr 1
  simp [rd_T116, List.getD, List.getElem?_eq_getElem h]

attribute [local go_sem high] eqA107 eqA109 eqA116
set_option maxHeartbeats 4000000 in
set_option maxRecDepth 100000 in
theorem lexPlaces_walk (s : ByteArray) (w : World) : Calls Try.prog 20 #[.string s] w fun e w' => e = .returned (.bool true) ∧ Below w.heap.size w w' := by
  by_cases hs : (400 : Int) < (s.size : Int)
  · go_enter Try.func20, Try.ntmps20
    go_wp2_with fail
    refine (awake_any _).mono ?_
    rintro e w1 ⟨rfl, h1⟩
    go_wp2_with fail
    refine (awake_any _).mono ?_
    rintro e w2 ⟨rfl, h2⟩
    go_wp2
    go_ret
    exact ⟨rfl, bel_trans h1 h2⟩
  · have hu107 := Try.underlying107
    have hu109 := Try.underlying109
    have hu116 := Try.underlying116
    go_enter Try.func20, Try.ntmps20
    go_wp2_with fail
    refine (awake_any _).mono ?_
    rintro e w1 ⟨rfl, h1⟩
    go_wp2_with fail
    refine (tokens_any _ _).mono ?_
    rintro e w2 ⟨v, ⟨l, p1, p2, e0, e1, e2⟩, rfl, hT, hR, hB⟩
    obtain ⟨A, c, rfl, hc, hC⟩ := Kd.R_reads hR
    have hm := Kd.C_max hC
    simp only at hm hC hc
    have HT := Aside0.mk hT
    have HC := Aside0.mk hC
    have Hc := Aside0.mk hc
    have Hm := Aside0.mk hm
    have HB := Aside0.mk (bel_trans h1 hB)
    have Hs := Aside0.mk (show s.size ≤ 400 by omega)
    clear hT hR hC hc hm hB h1 hs
    go_upto_region 4 with (fail)
    obtain ⟨B1, B2, B3⟩ := two_new w2 #[.int .i64 p1, .int .i64 p2] #[.int .i64 e0, .int .i64 e1, .int .i64 e2] 107 109
    replace HB := Aside0.mk (HB.out.trans (below_low B3 HB.out.size))
    replace HC := Aside0.mk (Kd.C_below HC.out B3)
    obtain ⟨g4, hg4⟩ : ∃ g4, w2.heap.size = g4 := ⟨_, rfl⟩
    obtain ⟨g5, hg5⟩ : ∃ g5, g4 + 1 = g5 := ⟨_, rfl⟩
    rw [hg4] at B1 B2 B3 ⊢
    rw [hg5] at B2 ⊢
    generalize (w2.alloc (.cells #[.int .i64 p1, .int .i64 p2] 107)).alloc (.cells #[.int .i64 e0, .int .i64 e1, .int .i64 e2] 109) = W at *
    have c20 := cell_of B2 0 _ rfl
    clear B1 B2 B3 hg4 hg5
    by_cases he : e0 = 0
    · subst he
      have hP := tok_placed Hs.out HT.out
      have HP := Aside0.mk hP
      have Hl := Aside0.mk (show l.length ≤ 400 by have := hP.len (Nat.zero_le _); have := Hs.out; omega)
      clear hP
      go_wp2_with fail
      clear c20
      go_loopw [6, 7, 8] (fun AT I NV wr => ∃ i a : Nat, AT = .int .i64 (a : Int) ∧ I = .int .i64 (i : Int) ∧ i ≤ l.length ∧ Aside0 (Placed s a (l.drop i)) ∧ Aside0 (Below W.heap.size W wr)) (fun _ I _ _ => l.length - (intOf I).toNat)
      case atStart => exact ⟨0, 0, rfl, rfl, Nat.zero_le _, HP, ⟨Below.refl _ _⟩⟩
      case round =>
        obtain ⟨i, a, rfl, rfl, hi, hP, hBr⟩ := hrel
        by_cases hin : i < l.length
        · have hnb : decide ((i : Int) < (l.length : Int)) = true := decide_eq_true (by omega)
          have hnc : decide (i < l.length) = true := decide_eq_true hin
          have hP1 := hP.out
          rw [drop_get l i hin] at hP1
          obtain ⟨ad, rfl, x0, x1, x2, x3⟩ := at_T116 HC.out (i : Int) (by omega) (by omega)
          rw [Int.toNat_natCast] at x0 x1 x2 x3
          generalize rd_T116 l (i : Int) = t at *
          cases hP1 with
          | cons _ b _ _ h1 h2 h3 h4 h5 h6 =>
            obtain ⟨tk, tx, ⟨q1, q2⟩⟩ := t
            simp only at x0 x1 x2 x3 h1 h2 h3 h4 h5 h6
            simp only [S107.mk.injEq] at h4
            obtain ⟨rfl, rfl⟩ := h4
            have i0 : 0 ≤ (i : Int) := by omega
            have i1 : (i : Int) < (l.length : Int) := by omega
            have hw : Aside0 (wrap64 ((i : Int) + 1) = ((i + 1 : Nat) : Int)) := ⟨by have := Hl.out; unfold wrap64; omega⟩
            have Hin := Aside0.mk hin
            have H1 := Aside0.mk h1
            have H2 := Aside0.mk h2
            have H3 := Aside0.mk h3
            have H5 := Aside0.mk h5
            have H6 := Aside0.mk h6
            clear hin hi h1 h2 h3 h5 h6 hP
            replace i0 := eq_true i0
            replace i1 := eq_true i1
            obtain ⟨pl, hpl⟩ : ∃ pl, (placeT s b).1 = pl := ⟨_, rfl⟩
            obtain ⟨pc, hpc⟩ : ∃ pc, (placeT s b).2 = pc := ⟨_, rfl⟩
            rw [hpl] at x2
            rw [hpc] at x3
            have Hpl := Aside0.mk hpl
            have Hpc := Aside0.mk hpc
            have X0 := Aside0.mk x0
            have X1 := Aside0.mk x1
            have X2 := Aside0.mk x2
            have X3 := Aside0.mk x3
            clear hpl hpc x0 x1 x2 x3
            go_wp2_with fail
            go_loopw [6] (fun AT wr2 => ∃ a' : Nat, AT = .int .i64 (a' : Int) ∧ a' ≤ b ∧ Aside0 (Below W.heap.size W wr2)) (fun AT _ => b - (intOf AT).toNat)
            case atStart => exact ⟨a, rfl, H1.out, hBr⟩
            case round =>
              obtain ⟨a', rfl, ha, hB2⟩ := hrel
              have x2 := bel_cell hB2.out X2.out
              have x3 := bel_cell hB2.out X3.out
              have hB3 := hB2.out
              by_cases hab : a' < b
              · have hne : ¬ placeT s a' = placeT s b := place_ne s a' b hab (by have := H2.out; have := Hs.out; omega)
                obtain ⟨r1, hr1⟩ : ∃ r1, (placeT s a').1 = r1 := ⟨_, rfl⟩
                obtain ⟨r2, hr2⟩ : ∃ r2, (placeT s a').2 = r2 := ⟨_, rfl⟩
                have hq : (r1 == pl && r2 == pc) = false := by
                  rw [← hr1, ← hr2, ← Hpl.out, ← Hpc.out]
                  cases hc : ((placeT s a').1 == (placeT s b).1 && (placeT s a').2 == (placeT s b).2) with
                  | false => rfl
                  | true =>
                    simp only [Bool.and_eq_true, beq_iff_eq] at hc
                    exact absurd (Prod.ext hc.1 hc.2) hne
                have hpl : winnowerref05_Place.f (s.size + 1) s (a' : Int) = some (r1, r2) := by
                  rw [place_f s a' (s.size + 1) (by have := H2.out; omega) (by have := Hs.out; omega) (by have := H2.out; omega), ← hr1, ← hr2]
                have Hpp := Aside0.mk hpl
                have k1 : decide ((a' : Int) < (s.size : Int)) = true := decide_eq_true (by have := H2.out; have := H3.out; omega)
                have k2 : decide (a' < s.size) = true := decide_eq_true (by have := H2.out; have := H3.out; omega)
                have hwa : Aside0 (wrap64 ((a' : Int) + 1) = ((a' + 1 : Nat) : Int)) := ⟨by have := H2.out; have := Hs.out; unfold wrap64; omega⟩
                have Hab := Aside0.mk hab
                clear hab hpl hr1 hr2 hne ha
                go_wp2_with fail
                go_region_held3 (fun W' => W'.cell? ⟨(ad.add (i * 4)).block, (ad.add (i * 4)).off + 2, none⟩ = some (.int .i64 pl) ∧ W'.cell? ⟨(ad.add (i * 4)).block, (ad.add (i * 4)).off + 3, none⟩ = some (.int .i64 pc) ∧ Below W.heap.size W W') (first | (refine ⟨bel_cell (wb := W) ?_ X2.out, bel_cell (wb := W) ?_ X3.out, ?_⟩ <;> simp [*]))
                 (first | (go_at_call 71; (refine (winnowerref05_Place.calls (s.size + 1) s (a' : Int) r1 r2 _ Hpp.out).mono ?_); rintro e w5 ⟨rfl, h5⟩; have hB5 := bel_trans (wb := W) (by simp [*]) h5) | (fail))
                all_goals (go_wp2_with fail; go_roundw)
                case rel => exact ⟨a' + 1, by rw [hwa.out], Hab.out, ⟨by assumption⟩⟩
                case measure => exact msr hwa.out Hab.out
              · obtain rfl : a' = b := by omega
                have hpl : winnowerref05_Place.f (s.size + 1) s (a' : Int) = some (pl, pc) := by
                  rw [place_f s a' (s.size + 1) (by have := H2.out; omega) (by have := Hs.out; omega) (by have := H2.out; omega), ← Hpl.out, ← Hpc.out]
                have Hpp := Aside0.mk hpl
                have k1 : decide ((a' : Int) < (s.size : Int)) = true := decide_eq_true (by have := H2.out; have := H3.out; omega)
                have k2 : decide (a' < s.size) = true := decide_eq_true (by have := H2.out; have := H3.out; omega)
                clear hab hpl ha
                go_wp2_with fail
                go_region_held3 (fun W' => W'.cell? ⟨(ad.add (i * 4)).block, (ad.add (i * 4)).off + 2, none⟩ = some (.int .i64 pl) ∧ W'.cell? ⟨(ad.add (i * 4)).block, (ad.add (i * 4)).off + 3, none⟩ = some (.int .i64 pc) ∧ Below W.heap.size W W') (first | (refine ⟨bel_cell (wb := W) ?_ X2.out, bel_cell (wb := W) ?_ X3.out, ?_⟩ <;> simp [*]))
                 (first | (go_at_call 71; (refine (winnowerref05_Place.calls (s.size + 1) s (a' : Int) pl pc _ Hpp.out).mono ?_); rintro e w5 ⟨rfl, h5⟩; have hB5 := bel_trans (wb := W) (by simp [*]) h5) | (fail))
                have x1 := bel_cell hB5 X1.out
                have z1 : ¬ (tx.size : Int) = 0 := by have := H3.out; omega
                have z2 : ((tx.size : Int) == 0) = false := by simpa using z1
                have z3 : (tx.size == 0) = false := by have := H3.out; rw [beq_eq_false_iff_ne]; omega
                have hwn : wrap64 ((a' : Int) + (tx.size : Int)) = (a' : Int) + (tx.size : Int) := by have := H2.out; have := Hs.out; unfold wrap64; omega
                have hwi : IntKind.i64.wrap ((a' : Int) + (tx.size : Int)) = (a' : Int) + (tx.size : Int) := by have := H2.out; have := Hs.out; rw [IntKind.wrap_i64]; omega
                have z5 : decide ((s.size : Int) < (a' : Int) + (tx.size : Int)) = false := decide_eq_false (by have := H2.out; omega)
                have z6 : decide (s.size < a' + tx.size) = false := decide_eq_false (by have := H2.out; omega)
                have hsl : ∀ w, (Instr.slice 9 (.string s) (some (.int .i64 (a' : Int))) (some (.int .i64 ((a' : Int) + (tx.size : Int)))) none).run Try.prog w = .ok (.string tx) w := fun w => by
                  rw [run_slice_string_if w 9 s .i64 .i64 _ _ Try.underlying9, if_pos ⟨by omega, by have := H2.out; omega⟩, if_pos ⟨by omega, by omega⟩, Int.toNat_natCast, show ((a' : Int) + (tx.size : Int)).toNat = a' + tx.size by omega, H5.out]
                all_goals go_wp2_with fail
                go_quiet (fail)
                go_wp2
                go_roundw
                case rel => exact ⟨i + 1, a' + tx.size, by go_num, by rw [hw.out], Hin.out, H6, ⟨by repeat (first | exact hB5 | apply pw_below_drewN)⟩⟩
                case measure => exact msr hw.out Hin.out
        · have hnb : decide ((i : Int) < (l.length : Int)) = false := decide_eq_false (by omega)
          have hnc : decide (i < l.length) = false := decide_eq_false hin
          clear hin hi
          go_wp2
          go_ret
          exact ⟨rfl, HB.out.trans (below_low hBr.out HB.out.size)⟩
    · have he2 : (e0 == 0) = false := by simpa using he
      obtain rfl := tok_err HT.out he
      go_wp2
      go_ret
      exact ⟨rfl, HB.out⟩
end Go.Proofs.Ytmaoadlighjkpaa.Lx
