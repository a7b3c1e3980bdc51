/- EqualNil: its walk. -/
import Derived.Test.YtkpadjhdneiniaaGreatDoorNe
namespace Go.Proofs.YtkpadjhdneiniaaGreatDoor.Am
set_option linter.unusedVariables false
open Go.RowKit Go.Proofs.YtkpadjhdneiniaaGreatDoorW.PrintWords Go.Proofs.YtkpadjhdneiniaaGreatDoorW.PrintLast Go.Proofs.YtkpadjhdneiniaaGreatDoorW.PrintMore Go.Maps
open Go.Proofs.YtkpadjhdneiniaaGreatDoor.Base Go.Proofs.YtkpadjhdneiniaaGreatDoor.Map Go.Proofs.YtkpadjhdneiniaaGreatDoor.Sl Go.Proofs.YtkpadjhdneiniaaGreatDoor.Ow Go.Proofs.YtkpadjhdneiniaaGreatDoor.Se Go.Proofs.YtkpadjhdneiniaaGreatDoor.Gr Go.Proofs.YtkpadjhdneiniaaGreatDoor.Rf Go.Proofs.YtkpadjhdneiniaaGreatDoor.Tx Go.Proofs.YtkpadjhdneiniaaGreatDoor.Au



open Go.Proofs.YtkpadjhdneiniaaGreatDoor.Eb
set_option maxHeartbeats 8000000 in
set_option maxRecDepth 100000 in
theorem apart_nn (w : World) : Calls Tryz.prog 39 #[.pointer none, .pointer none] w fun e w' => e = .returned (.tuple #[.slice none 0 0, .bool false]) ∧ Below w.heap.size w w' := by
  have HBr := Below.refl w.heap.size w
  go_enter Tryz.func39, Tryz.ntmps39
  go_wp2_with fail
  go_ret2
  exact ⟨rfl, HBr⟩
set_option maxHeartbeats 8000000 in
set_option maxRecDepth 100000 in
theorem apart_sn (p : Addr) (w : World) : Calls Tryz.prog 39 #[.pointer (some p), .pointer none] w fun e w' => e = .returned (.tuple #[.slice none 0 0, .bool true]) ∧ Below w.heap.size w w' := by
  have HBr := Below.refl w.heap.size w
  go_enter Tryz.func39, Tryz.ntmps39
  go_wp2_with fail
  go_ret2
  exact ⟨rfl, HBr⟩
set_option maxHeartbeats 8000000 in
set_option maxRecDepth 100000 in
theorem apart_ns (p : Addr) (w : World) : Calls Tryz.prog 39 #[.pointer none, .pointer (some p)] w fun e w' => e = .returned (.tuple #[.slice none 0 0, .bool true]) ∧ Below w.heap.size w w' := by
  have HBr := Below.refl w.heap.size w
  have hn : ∀ w : World, Sem.run Tryz.prog (binOp BinOp.neq 33 (.pointer none) (.pointer (some p))) w = .ok (.bool true) w := fun w => by kernel_rfl
  go_enter Tryz.func39, Tryz.ntmps39
  go_wp2_with fail
  go_ret2
  exact ⟨rfl, HBr⟩
set_option maxHeartbeats 8000000 in
set_option maxRecDepth 100000 in
theorem same_of (a b : Option Addr) (B : Bool) (w : World) (h : ∀ W', Below w.heap.size w W' → Calls Tryz.prog 39 #[.pointer a, .pointer b] W' fun e w' => e = .returned (.tuple #[.slice none 0 0, .bool (!B)]) ∧ Below W'.heap.size W' w') : SameSaid w a b B := by
  intro W' hc
  have HA := Aside0.mk (h W' hc)
  clear h hc
  go_enter Tryz.func41, Tryz.ntmps41
  go_wp2_with fail
  refine HA.out.mono ?_
  rintro e w3 ⟨rfl, r1⟩
  have HE := Aside0.mk r1
  clear r1 HA
  cases B with
  | true =>
    go_wp2_with fail
    go_ret
    exact ⟨rfl, HE.out⟩
  | false =>
    go_wp2_with fail
    go_ret
    exact ⟨rfl, HE.out⟩
theorem same_nn (w : World) : SameSaid w none none true := same_of none none true w (fun W' _ => apart_nn W')
theorem same_sn (p : Addr) (w : World) : SameSaid w (some p) none false := same_of (some p) none false w (fun W' _ => apart_sn p W')
theorem same_ns (p : Addr) (w : World) : SameSaid w none (some p) false := same_of none (some p) false w (fun W' _ => apart_ns p W')
/-- nil and an automaton, by turns -/
def turnP (pa : Nat) : List (Option Addr) := [none, some ⟨pa, 0, none⟩, none, some ⟨pa, 0, none⟩]
def turnS (j i : Nat) : Bool := j % 2 == i % 2
theorem turn_cls : clsL turnS 4 = [0, 1, 0, 1] := by decide
theorem turn_reads {w : World} {g pa : Nat} (h : w.heap[g]? = some (.cells #[.pointer none, .pointer (some ⟨pa, 0, none⟩), .pointer none, .pointer (some ⟨pa, 0, none⟩)] 33 (0, 0))) : RdA w (.slice (some ⟨g, 0, none⟩) 4 4) (turnP pa) := by
  refine ⟨some ⟨g, 0, none⟩, 4, rfl, Nat.le_refl _, fun j hj => ⟨⟨g, 0, none⟩, rfl, ?_⟩⟩
  have k0 : w.cell? ⟨g, 0, none⟩ = some (.pointer none) := blk_cellD h 0 _ rfl
  have k1 : w.cell? ⟨g, 1, none⟩ = some (.pointer (some ⟨pa, 0, none⟩)) := blk_cellD h 1 _ rfl
  have k2 : w.cell? ⟨g, 2, none⟩ = some (.pointer none) := blk_cellD h 2 _ rfl
  have k3 : w.cell? ⟨g, 3, none⟩ = some (.pointer (some ⟨pa, 0, none⟩)) := blk_cellD h 3 _ rfl
  have hj4 : j < 4 := hj
  match j, hj4 with
  | 0, _ => exact k0
  | 1, _ => exact k1
  | 2, _ => exact k2
  | 3, _ => exact k3
theorem turn_same {b e : Nat} {w : World} {pa : Nat} {T : List ByteArray} {E : List GE} {o : Int} (ha : AuS b e w pa T E o) (hL : LightG T.length E) (hok : ∀ a f z, (a, f, z) ∈ E → ok64 f) (o0 : 0 ≤ o) (o1 : o < T.length) : ∀ i j, i < 4 → j < 4 → SameSaid w ((turnP pa).getD j none) ((turnP pa).getD i none) (turnS j i) := by
  have hs : SameSaid w (some ⟨pa, 0, none⟩) (some ⟨pa, 0, none⟩) true := same_aus ha ha hL hok o0 o1 o0 o1 ⟨fun _ v => Df_same, fun _ => rfl⟩
  intro i j hi hj
  match i, hi, j, hj with
  | 0, _, 0, _ | 0, _, 2, _ | 2, _, 0, _ | 2, _, 2, _ => exact same_nn w
  | 0, _, 1, _ | 0, _, 3, _ | 2, _, 1, _ | 2, _, 3, _ => exact same_sn _ w
  | 1, _, 0, _ | 1, _, 2, _ | 3, _, 0, _ | 3, _, 2, _ => exact same_ns _ w
  | 1, _, 1, _ | 1, _, 3, _ | 3, _, 1, _ | 3, _, 3, _ => exact hs
set_option maxHeartbeats 16000000 in
set_option maxRecDepth 100000 in
theorem nil_law (A : Option Addr) (c : Nat) (T : List ByteArray) (A2 : Option Addr) (c2 : Nat) (E : List GE) (o : Int) (w : World) (hTZ : TZ w) (hP : P10 w) (hT : RdT w A T) (hE : RdE w A2 E) (hokE : ∀ a f z, (a, f, z) ∈ E → ok64 f) (hox : ok64 o) :
    Calls Tryz.prog 11 #[.agg #[.slice A T.length c, .slice A2 E.length c2], .int .i64 o] w fun e w' => e = .returned (.bool true) ∧ Below w.heap.size w w' := by
  obtain ⟨W, hW⟩ : ∃ W, w.alloc (.cells #[.slice A T.length c, .slice A2 E.length c2] 25) = W := ⟨_, rfl⟩
  have HBW := Aside0.mk (show Below w.heap.size w W by rw [← hW]; exact below_alloc (Below.refl _ _) _)
  have Hb := Aside0.mk (show W.heap[w.heap.size]? = some (.cells #[.slice A T.length c, .slice A2 E.length c2] 25 (0, 0)) by rw [← hW]; exact heap_alloc_new _ _)
  obtain ⟨g, hg⟩ : ∃ g, w.heap.size = g := ⟨_, rfl⟩
  rw [hg] at Hb
  have HAw := Aside0.mk (fun (W' : World) (hb : Below W.heap.size W W') => awake24_any W' (hTZ.below (bel_trans HBW.out hb)) (hP.below (bel_trans HBW.out hb)))
  have HLi := Aside0.mk (fun (W' : World) (hb : Below W.heap.size W W') => light_any A A2 T.length c c2 E W' (hE.below (bel_trans HBW.out hb)))
  have H := Aside0.mk (And.intro (hTZ.below HBW.out) (And.intro (hP.below HBW.out) (And.intro (hT.below HBW.out) (And.intro (hE.below HBW.out) (And.intro hokE hox)))))
  obtain ⟨nT, hnT⟩ : ∃ nT, T.length = nT := ⟨_, rfl⟩
  obtain ⟨nE, hnE⟩ : ∃ nE, E.length = nE := ⟨_, rfl⟩
  have Hn := Aside0.mk (And.intro hnT hnE)
  rw [hnT, hnE] at hW Hb HLi
  rw [hnT, hnE]
  clear hTZ hP hT hE hokE hox hnT hnE
  go_enter Tryz.func11, Tryz.ntmps11
  go_wp2_with fail
  clear hW
  refine (HAw.out W (Below.refl _ _)).mono ?_
  rintro e w1 ⟨rfl, r1⟩
  have HB1 := Aside0.mk r1
  clear r1
  have g0 : w1.cell? ⟨g, 0, none⟩ = some (.slice A nT c) := blk_cellD (Ow.blk_below Hb.out HB1.out) 0 _ rfl
  have g1 : w1.cell? ⟨g, 1, none⟩ = some (.slice A2 nE c2) := blk_cellD (Ow.blk_below Hb.out HB1.out) 1 _ rfl
  go_wp2_with fail
  refine (HLi.out w1 HB1.out).mono ?_
  rintro e w2 ⟨rfl, r1⟩
  have HB2 := Aside0.mk (bel_trans HB1.out r1)
  clear r1 g0 g1
  by_cases hli : LightG nT E
  case neg =>
    have d := decide_eq_false hli
    rw [d]
    clear d hli
    go_wp2_with fail
    refine (HAw.out _ HB2.out).mono ?_
    rintro e wz ⟨rfl, rz⟩
    have HBz := Aside0.mk (bel_trans HBW.out (bel_trans HB2.out rz))
    clear rz
    go_wp2_with fail
    go_ret
    exact ⟨rfl, by have h := HBz.out; first | exact h | (rw [hg] at h; exact h)⟩
  have d := decide_eq_true hli
  rw [d]
  have HL := Aside0.mk hli
  clear d hli
  have g0 : w2.cell? ⟨g, 0, none⟩ = some (.slice A nT c) := blk_cellD (Ow.blk_below Hb.out HB2.out) 0 _ rfl
  have g1 : w2.cell? ⟨g, 1, none⟩ = some (.slice A2 nE c2) := blk_cellD (Ow.blk_below Hb.out HB2.out) 1 _ rfl
  by_cases h0 : 0 ≤ o
  case neg =>
    have e1 : decide (o < 0) = true := decide_eq_true (by omega)
    have e2 : o < 0 := by omega
    clear h0
    go_wp2_with fail
    refine (HAw.out _ HB2.out).mono ?_
    rintro e wz ⟨rfl, rz⟩
    have HBz := Aside0.mk (bel_trans HBW.out (bel_trans HB2.out rz))
    clear rz
    go_wp2_with fail
    go_ret
    exact ⟨rfl, by have h := HBz.out; first | exact h | (rw [hg] at h; exact h)⟩
  have e1 : decide (o < 0) = false := decide_eq_false (by omega)
  by_cases h1 : o < nT
  case neg =>
    have e3 : decide ((nT : Int) ≤ o) = true := decide_eq_true (by omega)
    have e4 : (nT : Int) ≤ o := by omega
    clear h1
    go_wp2_with fail
    refine (HAw.out _ HB2.out).mono ?_
    rintro e wz ⟨rfl, rz⟩
    have HBz := Aside0.mk (bel_trans HBW.out (bel_trans HB2.out rz))
    clear rz
    go_wp2_with fail
    go_ret
    exact ⟨rfl, by have h := HBz.out; first | exact h | (rw [hg] at h; exact h)⟩
  have e3 : decide ((nT : Int) ≤ o) = false := decide_eq_false (by omega)
  have e4 : ¬ (nT : Int) ≤ o := by omega
  have Ho := Aside0.mk (And.intro h0 h1)
  clear h0
  have HMk := Aside0.mk (made2_any A c T A2 c2 E o w2 (H.out.1.below HB2.out) (H.out.2.1.below HB2.out) (H.out.2.2.1.below HB2.out) (H.out.2.2.2.1.below HB2.out) H.out.2.2.2.2.1 (by rw [Hn.out.1]; exact HL.out) Ho.out.1 (by rw [Hn.out.1]; exact Ho.out.2))
  rw [Hn.out.1, Hn.out.2] at HMk
  go_wp2_with fail
  refine HMk.out.mono ?_
  rintro e w3 ⟨pa, rfl, r1, r2⟩
  have HA3 := Aside0.mk r1
  have HB3 := Aside0.mk (bel_trans HB2.out r2)
  clear r1 r2 HMk g0 g1
  go_wp2_with fail
  refine (apart_sn _ w3).mono ?_
  rintro e w4 ⟨rfl, r1⟩
  have HB4 := Aside0.mk r1
  clear r1
  go_wp2_with fail
  refine (apart_ns _ w4).mono ?_
  rintro e w5 ⟨rfl, r1⟩
  have HB5 := Aside0.mk (bel_trans HB4.out r1)
  clear r1
  go_wp2_with fail
  refine (apart_nn w5).mono ?_
  rintro e w6 ⟨rfl, r1⟩
  have HB6 := Aside0.mk (bel_trans HB5.out r1)
  clear r1
  go_wp2_with fail
  refine (same_nn w6 w6 (Below.refl _ _)).mono ?_
  rintro e w7 ⟨rfl, r1⟩
  have HB7 := Aside0.mk (bel_trans HB6.out r1)
  clear r1
  go_wp2_with fail
  refine (same_sn _ w7 w7 (Below.refl _ _)).mono ?_
  rintro e w8 ⟨rfl, r1⟩
  have HB8 := Aside0.mk (bel_trans HB7.out r1)
  clear r1
  go_wp2_with fail
  obtain ⟨W9, hW9⟩ : ∃ W, w8.alloc (.cells #[.pointer none, .pointer (some ⟨pa, 0, none⟩), .pointer none, .pointer (some ⟨pa, 0, none⟩)] 33) = W := ⟨_, rfl⟩
  have hb9 : Below w8.heap.size w8 W9 := by rw [← hW9]; exact below_alloc (Below.refl _ _) _
  obtain ⟨g9, hg9⟩ : ∃ b, w8.heap.size = b := ⟨_, rfl⟩
  have ht9 := turn_reads (pa := pa) (show W9.heap[g9]? = _ by rw [← hW9, ← hg9]; exact heap_alloc_new _ _)
  have HB9 := Aside0.mk (bel_trans HB3.out (bel_trans HB8.out hb9))
  have HCl := Aside0.mk (classes_any (some ⟨g9, 0, none⟩) 4 4 (turnP pa) turnS W9 rfl (by decide) (by decide) ht9 (turn_same (HA3.out.below (bel_trans HB8.out hb9) (Nat.le_refl _)) (by rw [Hn.out.1]; exact HL.out) H.out.2.2.2.2.1 Ho.out.1 (by rw [Hn.out.1]; exact Ho.out.2)))
  rw [turn_cls] at HCl
  simp only [hg9, hW9]
  clear hg9 hW9 hb9 ht9
  refine HCl.out.mono ?_
  rintro e w10 ⟨u, rfl, r1, r2⟩
  have HB10 := Aside0.mk (bel_trans HB9.out r2)
  have HSa := Aside0.mk (fun (W' : World) (hc : Below w10.heap.size w10 W') (g' : Nat) (hb : W'.heap[g']? = some (.cells #[.int .i64 0, .int .i64 1, .int .i64 0, .int .i64 1] 3 (0, 0))) => same_any u (.slice (some ⟨g', 0, none⟩) 4 4) [0, 1, 0, 1] [0, 1, 0, 1] W' (r1.below hc) (rdV_lit (l := [0, 1, 0, 1]) hb rfl (by simp)))
  rw [decide_eq_true (rfl : ([0, 1, 0, 1] : List Int) = [0, 1, 0, 1])] at HSa
  clear r1 r2 HCl
  go_wp2_with fail
  refine (HSa.out _ (below_alloc (Below.refl _ _) _) _ (heap_alloc_new _ _)).mono ?_
  rintro e w11 ⟨rfl, r1⟩
  have HB11 := Aside0.mk (bel_trans HBW.out (bel_trans HB10.out (bel_trans (below_alloc (Below.refl _ _) _) r1)))
  clear r1
  go_wp2_with fail
  go_ret
  exact ⟨rfl, by have h := HB11.out; first | exact h | (rw [hg] at h; exact h)⟩

end Go.Proofs.YtkpadjhdneiniaaGreatDoor.Am
