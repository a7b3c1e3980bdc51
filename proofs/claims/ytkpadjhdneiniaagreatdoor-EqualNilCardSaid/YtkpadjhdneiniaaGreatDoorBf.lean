/- AutoSingle: its walk. -/
import Derived.Test.YtkpadjhdneiniaaGreatDoorBe
namespace Go.Proofs.YtkpadjhdneiniaaGreatDoor.Am
set_option linter.unusedVariables false
open Go.RowKit Go.Proofs.YtkpadjhdneiniaaGreatDoorW.PrintWords Go.Proofs.YtkpadjhdneiniaaGreatDoorW.PrintLast Go.Proofs.YtkpadjhdneiniaaGreatDoorW.PrintMore Go.Maps
open Go.Proofs.YtkpadjhdneiniaaGreatDoor.Base Go.Proofs.YtkpadjhdneiniaaGreatDoor.Map Go.Proofs.YtkpadjhdneiniaaGreatDoor.Sl Go.Proofs.YtkpadjhdneiniaaGreatDoor.Ow Go.Proofs.YtkpadjhdneiniaaGreatDoor.Se Go.Proofs.YtkpadjhdneiniaaGreatDoor.Gr Go.Proofs.YtkpadjhdneiniaaGreatDoor.Rf Go.Proofs.YtkpadjhdneiniaaGreatDoor.Tx Go.Proofs.YtkpadjhdneiniaaGreatDoor.Au



/-- a state has a type -/
theorem types_pos {T : List ByteArray} {E : List GE} {o : Int} {n : Nat} {S : List (List Int)} (hI : StI n E o S) (hn : n ≤ T.length) {s : List Int} (hs : s ∈ S) {S' : List ByteArray} (h : TypS T s S') : 0 < S'.length := by
  obtain ⟨h1, h2⟩ := hI.sm s hs
  obtain ⟨x, r, rfl⟩ : ∃ x r, s = x :: r := by
    cases s with
    | nil => exact absurd rfl h2
    | cons x r => exact ⟨x, r, rfl⟩
  have hx := h1.2 x (by simp)
  have hm : typeG T x ∈ S' := (h.mem _).2 (by
    unfold typL
    exact List.mem_map.2 ⟨x, List.mem_filter.2 ⟨by simp, by simp; omega⟩, rfl⟩)
  exact List.length_pos_of_mem hm
set_option maxHeartbeats 16000000 in
set_option maxRecDepth 100000 in
theorem single_law (A : Option Addr) (c : Nat) (T : List ByteArray) (A2 : Option Addr) (c2 : Nat) (E : List GE) (o : Int) (v : Value) (l : List Int) (w : World) (hTZ : TZ w) (hP : P10 w) (hT : RdT w A T) (hE : RdE w A2 E) (hv : RdV w v l) (hokE : ∀ a f z, (a, f, z) ∈ E → ok64 f) (hokl : ∀ x ∈ l, ok64 x) :
    Calls Tryz.prog 6 #[.agg #[.slice A T.length c, .slice A2 E.length c2], .int .i64 o, v] w fun e w' => e = .returned (.bool true) ∧ Below w.heap.size w w' := by
  obtain ⟨AV, cV, rfl, hcV, hrV⟩ := hv
  have hmx := hrV.max
  obtain ⟨W, hW⟩ : ∃ W, w.alloc (.cells #[.slice A T.length c, .slice A2 E.length c2] 25) = W := ⟨_, rfl⟩
  have HBW := Aside0.mk (show Below w.heap.size w W by rw [← hW]; exact below_alloc (Below.refl _ _) _)
  have Hb := Aside0.mk (show W.heap[w.heap.size]? = some (.cells #[.slice A T.length c, .slice A2 E.length c2] 25 (0, 0)) by rw [← hW]; exact heap_alloc_new _ _)
  obtain ⟨g, hg⟩ : ∃ g, w.heap.size = g := ⟨_, rfl⟩
  rw [hg] at Hb
  have HAw := Aside0.mk (fun (W' : World) (hb : Below W.heap.size W W') => awake_any W' (hTZ.below (bel_trans HBW.out hb)) (hP.below (bel_trans HBW.out hb)))
  have HLi := Aside0.mk (fun (W' : World) (hb : Below W.heap.size W W') => light_any A A2 T.length c c2 E W' (hE.below (bel_trans HBW.out hb)))
  have HV := Aside0.mk (RdV.below (v := .slice AV l.length cV) ⟨AV, cV, rfl, hcV, hrV⟩ HBW.out)
  have H := Aside0.mk (And.intro (hTZ.below HBW.out) (And.intro (hP.below HBW.out) (And.intro (hT.below HBW.out) (And.intro (hE.below HBW.out) (And.intro hokE hokl)))))
  obtain ⟨nT, hnT⟩ : ∃ nT, T.length = nT := ⟨_, rfl⟩
  obtain ⟨nE, hnE⟩ : ∃ nE, E.length = nE := ⟨_, rfl⟩
  obtain ⟨nl, hnl⟩ : ∃ nl, l.length = nl := ⟨_, rfl⟩
  have Hn := Aside0.mk (And.intro hnT (And.intro hnE hnl))
  rw [hnT, hnE] at hW Hb HLi
  rw [hnT, hnE]
  rw [hnl] at HV hmx ⊢
  clear hTZ hP hT hE hcV hrV hokE hokl hnT hnE hnl
  go_enter Tryz.func6, Tryz.ntmps6
  go_wp2_with fail
  clear hW
  refine (HAw.out W (Below.refl _ _)).mono ?_
  rintro e w1 ⟨rfl, r1⟩
  have HB1 := Aside0.mk r1
  clear r1
  have g0 : w1.cell? ⟨g, 0, none⟩ = some (.slice A nT c) := blk_cellD (Ow.blk_below Hb.out HB1.out) 0 _ rfl
  have g1 : w1.cell? ⟨g, 1, none⟩ = some (.slice A2 nE c2) := blk_cellD (Ow.blk_below Hb.out HB1.out) 1 _ rfl
  go_wp2_with fail
  refine (HLi.out w1 HB1.out).mono ?_
  rintro e w2 ⟨rfl, r1⟩
  have HB2 := Aside0.mk (bel_trans HB1.out r1)
  clear r1 g0 g1
  by_cases hli : LightG nT E
  case neg =>
    have d := decide_eq_false hli
    rw [d]
    clear d hli
    go_wp2_with fail
    refine (HAw.out _ HB2.out).mono ?_
    rintro e wz ⟨rfl, rz⟩
    have HBz := Aside0.mk (bel_trans HBW.out (bel_trans HB2.out rz))
    clear rz
    go_wp2_with fail
    go_ret
    exact ⟨rfl, by have h := HBz.out; first | exact h | (rw [hg] at h; exact h)⟩
  have d := decide_eq_true hli
  rw [d]
  have HL := Aside0.mk hli
  clear d hli
  have g0 : w2.cell? ⟨g, 0, none⟩ = some (.slice A nT c) := blk_cellD (Ow.blk_below Hb.out HB2.out) 0 _ rfl
  have g1 : w2.cell? ⟨g, 1, none⟩ = some (.slice A2 nE c2) := blk_cellD (Ow.blk_below Hb.out HB2.out) 1 _ rfl
  by_cases h30 : nl ≤ 30
  case neg =>
    have d1 : decide ((30 : Int) < (nl : Int)) = true := decide_eq_true (by omega)
    have d2 : (30 : Int) < (nl : Int) := by omega
    go_wp2_with fail
    refine (HAw.out _ HB2.out).mono ?_
    rintro e wz ⟨rfl, rz⟩
    have HBz := Aside0.mk (bel_trans HBW.out (bel_trans HB2.out rz))
    clear rz
    go_wp2_with fail
    go_ret
    exact ⟨rfl, by have h := HBz.out; first | exact h | (rw [hg] at h; exact h)⟩
  have d1 : decide ((30 : Int) < (nl : Int)) = false := decide_eq_false (by omega)
  have d2 : ¬ (30 : Int) < (nl : Int) := by omega
  have H30 := Aside0.mk h30
  by_cases h0 : 0 ≤ o
  case neg =>
    have e1 : decide (o < 0) = true := decide_eq_true (by omega)
    have e2 : o < 0 := by omega
    clear h30 h0
    go_wp2_with fail
    refine (HAw.out _ HB2.out).mono ?_
    rintro e wz ⟨rfl, rz⟩
    have HBz := Aside0.mk (bel_trans HBW.out (bel_trans HB2.out rz))
    clear rz
    go_wp2_with fail
    go_ret
    exact ⟨rfl, by have h := HBz.out; first | exact h | (rw [hg] at h; exact h)⟩
  have e1 : decide (o < 0) = false := decide_eq_false (by omega)
  by_cases h1 : o < nT
  case neg =>
    have e3 : decide ((nT : Int) ≤ o) = true := decide_eq_true (by omega)
    have e4 : (nT : Int) ≤ o := by omega
    clear h30
    go_wp2_with fail
    refine (HAw.out _ HB2.out).mono ?_
    rintro e wz ⟨rfl, rz⟩
    have HBz := Aside0.mk (bel_trans HBW.out (bel_trans HB2.out rz))
    clear rz
    go_wp2_with fail
    go_ret
    exact ⟨rfl, by have h := HBz.out; first | exact h | (rw [hg] at h; exact h)⟩
  have e3 : decide ((nT : Int) ≤ o) = false := decide_eq_false (by omega)
  have e4 : ¬ (nT : Int) ≤ o := by omega
  have Ho := Aside0.mk (And.intro h0 h1)
  have HNw := Aside0.mk (new_any A c T A2 c2 E w2 (H.out.2.2.1.below HB2.out) (H.out.2.2.2.1.below HB2.out) (by have h := HL.out.2.2; have h2 := Hn.out.1; omega) (by have h := HL.out.1.2; omega) H.out.2.2.2.2.1 (by rw [Hn.out.1]; exact HL.out.2.1))
  rw [Hn.out.1, Hn.out.2.1] at HNw
  clear h30 h1
  go_wp2_with fail
  refine HNw.out.mono ?_
  rintro e w3 ⟨pg, lab, rfl, r1, r2⟩
  have HG3 := Aside0.mk (GA.mk ⟨lab, r1⟩)
  have HB3 := Aside0.mk (bel_trans HB2.out r2)
  clear r1 r2 HNw g0 g1
  have HBd := Aside0.mk (build_any pg T E o 1000 w3 HG3.out (H.out.1.below HB3.out) (H.out.2.1.below HB3.out) (by rw [Hn.out.1]; exact HL.out.2.1) (by rw [Hn.out.1]; exact HL.out.2.2) HL.out.1.2 H.out.2.2.2.2.1 Ho.out.1 (by rw [Hn.out.1]; exact Ho.out.2) (by decide))
  rw [Hn.out.1] at HBd
  obtain ⟨S, hS⟩ : ∃ S, statesG E nT o = S := ⟨_, rfl⟩
  rw [hS] at HBd
  have hSI : StI nT E o S := by rw [← hS]; exact states_inv HL.out.2.1 Ho.out.1 Ho.out.2
  have hSl : S.length ≤ 256 := Nat.le_trans hSI.len (Nat.pow_le_pow_right (by decide) HL.out.2.2)
  have HS := Aside0.mk (And.intro hS (And.intro hSI hSl))
  clear hS hSI hSl
  go_wp2_with fail
  refine HBd.out.mono ?_
  rintro e w4 ⟨r1, ⟨-, pa, F, rfl, r2⟩ | ⟨r2, -⟩⟩
  case inr => exact absurd (show ((S.length : Nat) : Int) ≤ 1000 by have := HS.out.2.2; omega) r2
  have HA4 := Aside0.mk r2
  have HG4 := Aside0.mk (HG3.out.below r1)
  have HB4 := Aside0.mk (bel_trans HB3.out r1)
  clear r1 r2 HBd
  have g0 : w4.cell? ⟨g, 0, none⟩ = some (.slice A nT c) := blk_cellD (Ow.blk_below Hb.out HB4.out) 0 _ rfl
  have g1 : w4.cell? ⟨g, 1, none⟩ = some (.slice A2 nE c2) := blk_cellD (Ow.blk_below Hb.out HB4.out) 1 _ rfl
  have hTl : T.length ≤ 1000 := by have h := HL.out.2.2; have h2 := Hn.out.1; omega
  have hsl : ∀ s ∈ S, s.length ≤ 1000 := fun s hs => by have h := (sm_ok HL.out.2.2 (HS.out.2.1.sm s hs).1).1; omega
  have HTl := Aside0.mk (And.intro hTl hsl)
  clear hTl hsl
  by_cases hsg : SingleG T S
  · have HSg := Aside0.mk (asingle_any pa pg _ F S _ T E w4 HA4.out HG4.out HTl.out.2 HTl.out.1 (by have := HS.out.2.2; omega) true (by simp [hsg]))
    have Hsg := Aside0.mk hsg
    clear hsg
    go_wp2_with fail
    refine HSg.out.mono ?_
    rintro e w5 ⟨rfl, r1⟩
    have HRn := Aside0.mk (arun_any pa pg _ F S _ T E _ l w5 (HA4.out.below r1) (HG4.out.below r1) HTl.out.2 HTl.out.1 (stepG_ok (by have := HS.out.2.2; omega)) ((HV.out.below HB4.out).below r1) H.out.2.2.2.2.2 (by have := Hn.out.2.2; have := H30.out; omega))
    have HB5 := Aside0.mk (bel_trans HB4.out r1)
    clear r1
    go_wp2_with fail
    refine HRn.out.mono ?_
    rintro e w6 ⟨v1, S1, rfl, r1, r2, r3⟩
    have hlen : S1.length ≤ 1 := by
      by_cases hx : 0 ≤ runG (stepG E S) l ∧ runG (stepG E S) l < S.length
      · unfold atG at r2; rw [if_pos hx] at r2
        rw [Hsg.out _ (getD_mem (d := ([] : List Int)) (show (runG (stepG E S) l).toNat < S.length by omega)) S1 r2]; exact Nat.le_refl _
      · rw [atG_out hx] at r2
        exact Nat.le_trans r2.len (by simp)
    have HB6 := Aside0.mk (bel_trans HB5.out r3)
    obtain ⟨A5, c5, rfl, -, -⟩ := r1
    have q1 : decide ((S1.length : Int) ≤ 1) = true := decide_eq_true (by omega)
    have q2 : decide (S1.length ≤ 1) = true := decide_eq_true hlen
    clear r2 r3
    go_wp2_with fail
    go_ret
    exact ⟨rfl, by have h := bel_trans HBW.out HB6.out; first | exact h | (rw [hg] at h; exact h)⟩
  · have HSg := Aside0.mk (asingle_any pa pg _ F S _ T E w4 HA4.out HG4.out HTl.out.2 HTl.out.1 (by have := HS.out.2.2; omega) false (by simp [hsg]))
    have Hsg := Aside0.mk hsg
    clear hsg
    go_wp2_with fail
    refine HSg.out.mono ?_
    rintro e w5 ⟨rfl, r1⟩
    have HA5 := Aside0.mk (HA4.out.below r1)
    have HG5 := Aside0.mk (HG4.out.below r1)
    have HB5 := Aside0.mk (bel_trans HB4.out r1)
    clear r1 g0 g1
    go_wp2_with fail
    go_loopw [11, 12] (fun Z I wr => ∃ (i : Nat) (b : Bool), I = .int .i64 (i : Int) ∧ i ≤ S.length ∧ Z = .bool b ∧ Aside0 (b = false → SingleG T (S.take i)) ∧ Aside0 (Below w5.heap.size w5 wr)) (fun _ I _ => S.length - (intOf I).toNat)
    case atStart => exact ⟨0, false, rfl, Nat.zero_le _, rfl, ⟨fun _ s hs => by simp at hs⟩, ⟨Below.refl _ _⟩⟩
    case round =>
      obtain ⟨i, b, rfl, hi, rfl, HZ, HB⟩ := hrel
      have HLn := Aside0.mk (alen_any pa pg _ F S _ wr (HA5.out.below HB.out))
      have i3 : (i : Int) ≤ 256 := by have := HS.out.2.2; omega
      by_cases hin : i < S.length
      · have hnb : decide ((i : Int) < (S.length : Int)) = true := decide_eq_true (by omega)
        have hnc : decide (i < S.length) = true := decide_eq_true hin
        have HTy := Aside0.mk (atypes_any pa pg _ F S _ T E (i : Int) wr (HA5.out.below HB.out) (HG5.out.below HB.out) HTl.out.2 HTl.out.1)
        rw [atG_nat hin] at HTy
        have Hin := Aside0.mk hin
        clear hin hi
        cases b with
        | true =>
          go_wp2_with fail
          refine HLn.out.mono ?_
          rintro e w6 ⟨rfl, rfl⟩
          go_wp2_with fail
          go_roundw
          case rel => exact ⟨i + 1, true, by go_num, Hin.out, rfl, ⟨fun h => by cases h⟩, HB⟩
          case measure => have := Hin.out; simp [intOf]; omega
        | false =>
          go_wp2_with fail
          refine HLn.out.mono ?_
          rintro e w6 ⟨rfl, rfl⟩
          go_wp2_with fail
          refine HTy.out.mono ?_
          rintro e w6 ⟨v1, S1, rfl, r1, r2, r3⟩
          have HR2 := Aside0.mk r2
          have HB6 := Aside0.mk (bel_trans HB.out r3)
          obtain ⟨A5, c5, rfl, -, -⟩ := r1
          clear r2 r3
          have hpos : 0 < S1.length := types_pos HS.out.2.1 (by rw [Hn.out.1]; exact Nat.le_refl _) (getD_mem Hin.out) HR2.out
          by_cases h1 : S1.length = 1
          · have q1 : decide ((1 : Int) < (S1.length : Int)) = false := decide_eq_false (by omega)
            have q2 : decide (1 < S1.length) = false := decide_eq_false (by omega)
            have HZ2 := Aside0.mk (show false = false → SingleG T (S.take (i + 1)) from fun _ => by
              intro s hs S' hS'
              rw [take_snocL Hin.out] at hs
              rcases List.mem_append.1 hs with hs | hs
              · exact (by first | exact HZ.out rfl | exact HZ.out trivial : SingleG T (S.take i)) s hs S' hS'
              · rw [List.mem_singleton] at hs
                subst hs
                rw [← TypS.ext HR2.out hS']; exact h1)
            clear h1 hpos
            go_wp2_with fail
            go_roundw
            case rel => exact ⟨i + 1, false, by go_num, Hin.out, rfl, ⟨fun _ => by first | exact HZ2.out rfl | exact HZ2.out trivial⟩, HB6⟩
            case measure => have := Hin.out; simp [intOf]; omega
          · have q1 : decide ((1 : Int) < (S1.length : Int)) = true := decide_eq_true (by omega)
            have q2 : decide (1 < S1.length) = true := decide_eq_true (by omega)
            clear h1 hpos
            go_wp2_with fail
            go_roundw
            case rel => exact ⟨i + 1, true, by go_num, Hin.out, rfl, ⟨fun h => by cases h⟩, HB6⟩
            case measure => have := Hin.out; simp [intOf]; omega
      · have hnb : decide ((i : Int) < (S.length : Int)) = false := decide_eq_false (by omega)
        have hnc : decide (i < S.length) = false := decide_eq_false hin
        obtain rfl : i = S.length := by omega
        have hbt : b = true := by
          cases b with
          | true => rfl
          | false => exact absurd (by have : SingleG T (S.take S.length) := (by first | exact HZ.out rfl | exact HZ.out trivial); rw [List.take_length] at this; exact this) Hsg.out
        subst hbt
        have HB9 := Aside0.mk (bel_trans HBW.out (bel_trans HB5.out HB.out))
        clear hin hi
        go_wp2_with fail
        refine HLn.out.mono ?_
        rintro e w6 ⟨rfl, rfl⟩
        go_wp2_with fail
        go_ret
        exact ⟨rfl, by have h := HB9.out; first | exact h | (rw [hg] at h; exact h)⟩

end Go.Proofs.YtkpadjhdneiniaaGreatDoor.Am
