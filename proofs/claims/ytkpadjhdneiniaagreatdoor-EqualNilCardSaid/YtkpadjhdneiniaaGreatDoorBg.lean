/- A row of bools; AutoEnds: its walk. -/
import Derived.Test.YtkpadjhdneiniaaGreatDoorBf
namespace Go.Proofs.YtkpadjhdneiniaaGreatDoor.Am
set_option linter.unusedVariables false
open Go.RowKit Go.Proofs.YtkpadjhdneiniaaGreatDoorW.PrintWords Go.Proofs.YtkpadjhdneiniaaGreatDoorW.PrintLast Go.Proofs.YtkpadjhdneiniaaGreatDoorW.PrintMore Go.Maps
open Go.Proofs.YtkpadjhdneiniaaGreatDoor.Base Go.Proofs.YtkpadjhdneiniaaGreatDoor.Map Go.Proofs.YtkpadjhdneiniaaGreatDoor.Sl Go.Proofs.YtkpadjhdneiniaaGreatDoor.Ow Go.Proofs.YtkpadjhdneiniaaGreatDoor.Se Go.Proofs.YtkpadjhdneiniaaGreatDoor.Gr Go.Proofs.YtkpadjhdneiniaaGreatDoor.Rf Go.Proofs.YtkpadjhdneiniaaGreatDoor.Tx Go.Proofs.YtkpadjhdneiniaaGreatDoor.Au




/-- a row of n bools -/
def RowB (w : World) (b n : Nat) (f : Nat → Bool) : Prop := ∃ cur, w.heap[b]? = some (.cells cur 4 (0, 0)) ∧ cur.size = n ∧ ∀ k, k < n → cur[k]? = some (.bool (f k))
theorem RowB.blk {w w1 : World} {b n : Nat} {f : Nat → Bool} (h : RowB w b n f) (hb : w1.heap[b]? = w.heap[b]?) : RowB w1 b n f := by
  obtain ⟨cur, h1, h2, h3⟩ := h
  exact ⟨cur, hb.trans h1, h2, h3⟩
theorem RowB.lt {w : World} {b n : Nat} {f : Nat → Bool} (h : RowB w b n f) : b < w.heap.size := by obtain ⟨cur, h1, _⟩ := h; exact blk_lt h1
theorem RowB.below {w w1 : World} {b n : Nat} {f : Nat → Bool} (h : RowB w b n f) (hb : Below w.heap.size w w1) : RowB w1 b n f := h.blk (hb.block b h.lt)
theorem RowB.cell {w : World} {b n : Nat} {f : Nat → Bool} (h : RowB w b n f) {k : Nat} (hk : k < n) : w.cell? ⟨b, k, none⟩ = some (.bool (f k)) := by
  obtain ⟨cur, h1, h2, h3⟩ := h
  exact blk_cellD h1 k _ (h3 k hk)
theorem RowB.free {w : World} {b n : Nat} {f : Nat → Bool} (h : RowB w b n f) (k : Nat) : w.frozen? ⟨b, k, none⟩ = false := by
  obtain ⟨cur, h1, _⟩ := h
  exact blk_frozen h1 k
theorem RowB.set {w : World} {b n : Nat} {f : Nat → Bool} (h : RowB w b n f) (k : Nat) (q : Bool) : RowB (w.setCell ⟨b, k, none⟩ (.bool q)) b n (fun j => if j = k then q else f j) := by
  obtain ⟨cur, h1, h2, h3⟩ := h
  refine ⟨cur.setIfInBounds k (.bool q), blk_set h1 k _, by simp [h2], fun j hj => ?_⟩
  rw [Array.getElem?_setIfInBounds]
  by_cases e : k = j
  · subst e; rw [if_pos rfl, if_pos (by omega)]; simp
  · rw [if_neg e]
    show cur[j]? = some (Value.bool (if j = k then q else f j))
    rw [if_neg (fun h : j = k => e h.symm)]; exact h3 j hj
theorem RowB.far {w : World} {b n : Nat} {f : Nat → Bool} (h : RowB w b n f) {p : Addr} (hp : b ≠ p.block) (u : Value) : RowB (w.setCell p u) b n f := h.blk (Below.heap_setCell w p u b hp)
theorem info4 : (Tryz.prog.info? 4).map (fun i => (i.zero, i.size, i.bytes)) = some (some (.bool false), 1, 1) := by kernel_rfl
theorem mk_row (n : Nat) (hn : n ≤ 1000000) : ∀ W : World, (Instr.makeSlice 41 (.int .i64 (n : Int)) (.int .i64 (n : Int))).run Tryz.prog W = .ok (.slice (some ⟨W.heap.size, 0, none⟩) n n) (W.alloc (.cells (madeCells #[.bool false] n) 4)) :=
  fun W => run_make_row' 41 4 (.bool false) 1 Tryz.underlying41 info4 rfl .i64 .i64 n (by omega) (by omega) W
theorem row_made (W : World) (n : Nat) : RowB (W.alloc (.cells (madeCells #[.bool false] n) 4)) W.heap.size n (fun _ => false) :=
  ⟨_, heap_alloc_new _ _, by simp [size_madeCells], fun k hk => by simp [madeCells, hk, Nat.mod_one]⟩
/-- word[:i] -/
theorem cut_front {w : World} {A : Option Addr} {n c : Nat} {l : List Int} (h : RdV w (.slice A n c) l) {i : Nat} (hi : i ≤ n) :
    (∀ W : World, (Instr.slice 26 (.slice A n c) none (some (.int .i64 (i : Int))) none).run Tryz.prog W = .ok (.slice A i c) W) ∧ RdV w (.slice A i c) (l.take i) := by
  obtain ⟨A', c', e, hc, hr⟩ := h
  cases e
  obtain ⟨i0, hi0, -⟩ := i3
  refine ⟨fun W => by have := cut_to 26 3 .i64 Tryz.underlying26 hi0 A l.length c (i : Int) (by omega) (by omega) hc W; simpa using this, ⟨A, c, by rw [List.length_take, Nat.min_eq_left hi], by rw [List.length_take, Nat.min_eq_left hi]; omega, ⟨Kd.C_take hr.out hi⟩⟩⟩
/-- nowhere after i rounds -/
def Nw (E : List GE) (o : Int) (l : List Int) (i : Nat) (b : Bool) : Prop := b = true → ledG E o (l.take (i - 1)) = []
/-- who is met after i states -/
def Met (E : List GE) (S : List (List Int)) (f : Nat → Bool) (i : Nat) : Prop := f 0 = true ∧ ∀ j, j < i → ∀ x ∈ fieldsG E (S.getD j []), f (S.idxOf (nextG E x (S.getD j []))) = true
theorem met_at {n : Nat} {E : List GE} {o : Int} {S : List (List Int)} {f : Nat → Bool} {i : Nat} (hR : RightG n E) (h0 : 0 ≤ o) (h1 : o < n) (hS : statesG E n o = S) (h : Met E S f i) (hi : i < S.length) : f i = true := by
  by_cases hz : i = 0
  · rw [hz]; exact h.1
  · have hd : S.Nodup := by rw [← hS]; exact (states_inv hR h0 h1).nodup
    have hS' : stT E o (2 ^ n) = S := hS
    obtain ⟨j, s, x, hj, hs, hx, hk, -⟩ := stT_from hR h0 h1 (2 ^ n) i (by omega) (by rw [hS']; exact hi)
    rw [hS'] at hs hk
    have e1 : S.getD j [] = s := by rw [List.getD_eq_getElem?_getD, hs]; rfl
    have e2 : S.idxOf (nextG E x s) = i := by
      rw [List.getElem?_eq_getElem hi] at hk
      injection hk with hk
      rw [← hk]; exact hd.idxOf_getElem i hi
    have := h.2 j hj x (by rw [e1]; exact hx)
    rw [e1, e2] at this; exact this
/-- a step from a state by one of its fields -/
theorem step_at {n : Nat} {E : List GE} {o : Int} {S : List (List Int)} (hR : RightG n E) (h0 : 0 ≤ o) (h1 : o < n) (hS : statesG E n o = S) {i : Nat} (hi : i < S.length) {x : Int} (hx : x ∈ fieldsG E (S.getD i [])) :
    (stepG E S (i : Int) x).getD (-1) = ((S.idxOf (nextG E x (S.getD i [])) : Nat) : Int) ∧ S.idxOf (nextG E x (S.getD i [])) < S.length := by
  refine ⟨?_, List.idxOf_lt_length_of_mem ?_⟩
  · unfold stepG
    rw [if_pos ⟨by omega, by omega, by simpa using hx⟩, Int.toNat_natCast]; rfl
  · have := states_next hR h0 h1 (s := S.getD i []) (by rw [hS]; exact getD_mem hi) hx
    rw [hS] at this; exact this
theorem own_far {w w' : World} {base rb : Nat} {v : Value} {l : List Int} (h : OwI w base v l) (hr : rb < base) (hC : Chg (fun b => b = rb) w w') : RdV w' v l :=
  ((OwF.of_own h (F := fun k => base ≤ k) (fun k h _ => h)).chg hC (fun k hk e => by omega)).toV
theorem fldG_nat {E : List GE} {S : List (List Int)} {i : Nat} (hi : i < S.length) : fldG E S (i : Int) = fieldsG E (S.getD i []) := by
  unfold fldG
  rw [if_pos ⟨by omega, by omega⟩, atG_nat hi]
theorem led_more {E : List GE} {o : Int} {l : List Int} {i : Nat} (h : ledG E o (l.take (i - 1)) = []) : ledG E o (l.take i) = [] := by
  refine ledG_stop (i := i - 1) ?_
  rw [List.take_take, Nat.min_eq_left (Nat.sub_le _ _)]; exact h
/-- nowhere: no types -/
theorem types_zero {T : List ByteArray} {E : List GE} {o : Int} {n : Nat} {S : List (List Int)} (hR : RightG n E) (h0 : 0 ≤ o) (h1 : o < n) (hS : statesG E n o = S) (hn : n ≤ T.length) {l : List Int} {S' : List ByteArray} (h : TypS T (ledG E o l) S') : S'.length = 0 ↔ ledG E o l = [] := by
  have hI : StI n E o S := by rw [← hS]; exact states_inv hR h0 h1
  rcases run_cases hR h0 h1 hS l with ⟨h2, k, h3, h4, h5⟩ | ⟨h2, h3⟩
  · have := types_pos hI hn (s := ledG E o l) (by rw [← h5]; exact getD_mem h4) h
    exact ⟨fun e => by omega, fun e => absurd e h2⟩
  · exact ⟨fun _ => h2, fun _ => by have := h.len; rw [h2] at this; simpa using this⟩
set_option maxHeartbeats 16000000 in
set_option maxRecDepth 100000 in
theorem ends_law (A : Option Addr) (c : Nat) (T : List ByteArray) (A2 : Option Addr) (c2 : Nat) (E : List GE) (o : Int) (v : Value) (l : List Int) (w : World) (hTZ : TZ w) (hP : P10 w) (hT : RdT w A T) (hE : RdE w A2 E) (hv : RdV w v l) (hokE : ∀ a f z, (a, f, z) ∈ E → ok64 f) (hokl : ∀ x ∈ l, ok64 x) :
    Calls Tryz.prog 4 #[.agg #[.slice A T.length c, .slice A2 E.length c2], .int .i64 o, v] w fun e w' => e = .returned (.bool true) ∧ Below w.heap.size w w' := by
  obtain ⟨AV, cV, rfl, hcV, hrV⟩ := hv
  have hmx := hrV.max
  obtain ⟨W, hW⟩ : ∃ W, w.alloc (.cells #[.slice A T.length c, .slice A2 E.length c2] 25) = W := ⟨_, rfl⟩
  have HBW := Aside0.mk (show Below w.heap.size w W by rw [← hW]; exact below_alloc (Below.refl _ _) _)
  have Hb := Aside0.mk (show W.heap[w.heap.size]? = some (.cells #[.slice A T.length c, .slice A2 E.length c2] 25 (0, 0)) by rw [← hW]; exact heap_alloc_new _ _)
  obtain ⟨g, hg⟩ : ∃ g, w.heap.size = g := ⟨_, rfl⟩
  rw [hg] at Hb
  have HAw := Aside0.mk (fun (W' : World) (hb : Below W.heap.size W W') => awake_any W' (hTZ.below (bel_trans HBW.out hb)) (hP.below (bel_trans HBW.out hb)))
  have HLi := Aside0.mk (fun (W' : World) (hb : Below W.heap.size W W') => light_any A A2 T.length c c2 E W' (hE.below (bel_trans HBW.out hb)))
  have HV := Aside0.mk (RdV.below (v := .slice AV l.length cV) ⟨AV, cV, rfl, hcV, hrV⟩ HBW.out)
  have H := Aside0.mk (And.intro (hTZ.below HBW.out) (And.intro (hP.below HBW.out) (And.intro (hT.below HBW.out) (And.intro (hE.below HBW.out) (And.intro hokE hokl)))))
  obtain ⟨nT, hnT⟩ : ∃ nT, T.length = nT := ⟨_, rfl⟩
  obtain ⟨nE, hnE⟩ : ∃ nE, E.length = nE := ⟨_, rfl⟩
  obtain ⟨nl, hnl⟩ : ∃ nl, l.length = nl := ⟨_, rfl⟩
  have Hn := Aside0.mk (And.intro hnT (And.intro hnE hnl))
  rw [hnT, hnE] at hW Hb HLi
  rw [hnT, hnE]
  rw [hnl] at HV hmx ⊢
  clear hTZ hP hT hE hcV hrV hokE hokl hnT hnE hnl
  go_enter Tryz.func4, Tryz.ntmps4
  go_wp2_with fail
  clear hW
  refine (HAw.out W (Below.refl _ _)).mono ?_
  rintro e w1 ⟨rfl, r1⟩
  have HB1 := Aside0.mk r1
  clear r1
  have g0 : w1.cell? ⟨g, 0, none⟩ = some (.slice A nT c) := blk_cellD (Ow.blk_below Hb.out HB1.out) 0 _ rfl
  have g1 : w1.cell? ⟨g, 1, none⟩ = some (.slice A2 nE c2) := blk_cellD (Ow.blk_below Hb.out HB1.out) 1 _ rfl
  go_wp2_with fail
  refine (HLi.out w1 HB1.out).mono ?_
  rintro e w2 ⟨rfl, r1⟩
  have HB2 := Aside0.mk (bel_trans HB1.out r1)
  clear r1 g0 g1
  by_cases hli : LightG nT E
  case neg =>
    have d := decide_eq_false hli
    rw [d]
    clear d hli
    go_wp2_with fail
    refine (HAw.out _ HB2.out).mono ?_
    rintro e wz ⟨rfl, rz⟩
    have HBz := Aside0.mk (bel_trans HBW.out (bel_trans HB2.out rz))
    clear rz
    go_wp2_with fail
    go_ret
    exact ⟨rfl, by have h := HBz.out; first | exact h | (rw [hg] at h; exact h)⟩
  have d := decide_eq_true hli
  rw [d]
  have HL := Aside0.mk hli
  clear d hli
  have g0 : w2.cell? ⟨g, 0, none⟩ = some (.slice A nT c) := blk_cellD (Ow.blk_below Hb.out HB2.out) 0 _ rfl
  have g1 : w2.cell? ⟨g, 1, none⟩ = some (.slice A2 nE c2) := blk_cellD (Ow.blk_below Hb.out HB2.out) 1 _ rfl
  by_cases h30 : nl ≤ 30
  case neg =>
    have d1 : decide ((30 : Int) < (nl : Int)) = true := decide_eq_true (by omega)
    have d2 : (30 : Int) < (nl : Int) := by omega
    go_wp2_with fail
    refine (HAw.out _ HB2.out).mono ?_
    rintro e wz ⟨rfl, rz⟩
    have HBz := Aside0.mk (bel_trans HBW.out (bel_trans HB2.out rz))
    clear rz
    go_wp2_with fail
    go_ret
    exact ⟨rfl, by have h := HBz.out; first | exact h | (rw [hg] at h; exact h)⟩
  have d1 : decide ((30 : Int) < (nl : Int)) = false := decide_eq_false (by omega)
  have d2 : ¬ (30 : Int) < (nl : Int) := by omega
  have H30 := Aside0.mk h30
  by_cases h0 : 0 ≤ o
  case neg =>
    have e1 : decide (o < 0) = true := decide_eq_true (by omega)
    have e2 : o < 0 := by omega
    clear h30 h0
    go_wp2_with fail
    refine (HAw.out _ HB2.out).mono ?_
    rintro e wz ⟨rfl, rz⟩
    have HBz := Aside0.mk (bel_trans HBW.out (bel_trans HB2.out rz))
    clear rz
    go_wp2_with fail
    go_ret
    exact ⟨rfl, by have h := HBz.out; first | exact h | (rw [hg] at h; exact h)⟩
  have e1 : decide (o < 0) = false := decide_eq_false (by omega)
  by_cases h1 : o < nT
  case neg =>
    have e3 : decide ((nT : Int) ≤ o) = true := decide_eq_true (by omega)
    have e4 : (nT : Int) ≤ o := by omega
    clear h30
    go_wp2_with fail
    refine (HAw.out _ HB2.out).mono ?_
    rintro e wz ⟨rfl, rz⟩
    have HBz := Aside0.mk (bel_trans HBW.out (bel_trans HB2.out rz))
    clear rz
    go_wp2_with fail
    go_ret
    exact ⟨rfl, by have h := HBz.out; first | exact h | (rw [hg] at h; exact h)⟩
  have e3 : decide ((nT : Int) ≤ o) = false := decide_eq_false (by omega)
  have e4 : ¬ (nT : Int) ≤ o := by omega
  have Ho := Aside0.mk (And.intro h0 h1)
  have HNw := Aside0.mk (new_any A c T A2 c2 E w2 (H.out.2.2.1.below HB2.out) (H.out.2.2.2.1.below HB2.out) (by have h := HL.out.2.2; have h2 := Hn.out.1; omega) (by have h := HL.out.1.2; omega) H.out.2.2.2.2.1 (by rw [Hn.out.1]; exact HL.out.2.1))
  rw [Hn.out.1, Hn.out.2.1] at HNw
  clear h30 h1
  go_wp2_with fail
  refine HNw.out.mono ?_
  rintro e w3 ⟨pg, lab, rfl, r1, r2⟩
  have HG3 := Aside0.mk (GA.mk ⟨lab, r1⟩)
  have HB3 := Aside0.mk (bel_trans HB2.out r2)
  clear r1 r2 HNw g0 g1
  have HBd := Aside0.mk (build_any pg T E o 1000 w3 HG3.out (H.out.1.below HB3.out) (H.out.2.1.below HB3.out) (by rw [Hn.out.1]; exact HL.out.2.1) (by rw [Hn.out.1]; exact HL.out.2.2) HL.out.1.2 H.out.2.2.2.2.1 Ho.out.1 (by rw [Hn.out.1]; exact Ho.out.2) (by decide))
  rw [Hn.out.1] at HBd
  obtain ⟨S, hS⟩ : ∃ S, statesG E nT o = S := ⟨_, rfl⟩
  rw [hS] at HBd
  have hSI : StI nT E o S := by rw [← hS]; exact states_inv HL.out.2.1 Ho.out.1 Ho.out.2
  have hSl : S.length ≤ 256 := Nat.le_trans hSI.len (Nat.pow_le_pow_right (by decide) HL.out.2.2)
  have HS := Aside0.mk (And.intro hS (And.intro hSI hSl))
  clear hS hSI hSl
  go_wp2_with fail
  refine HBd.out.mono ?_
  rintro e w4 ⟨r1, ⟨-, pa, F, rfl, r2⟩ | ⟨r2, -⟩⟩
  case inr => exact absurd (show ((S.length : Nat) : Int) ≤ 1000 by have := HS.out.2.2; omega) r2
  have HA4 := Aside0.mk r2
  have HG4 := Aside0.mk (HG3.out.below r1)
  have HB4 := Aside0.mk (bel_trans HB3.out r1)
  clear r1 r2 HBd
  have g0 : w4.cell? ⟨g, 0, none⟩ = some (.slice A nT c) := blk_cellD (Ow.blk_below Hb.out HB4.out) 0 _ rfl
  have g1 : w4.cell? ⟨g, 1, none⟩ = some (.slice A2 nE c2) := blk_cellD (Ow.blk_below Hb.out HB4.out) 1 _ rfl
  have hTl : T.length ≤ 1000 := by have h := HL.out.2.2; have h2 := Hn.out.1; omega
  have hsl : ∀ s ∈ S, s.length ≤ 1000 := fun s hs => by have h := (sm_ok HL.out.2.2 (HS.out.2.1.sm s hs).1).1; omega
  have HTl := Aside0.mk (And.intro hTl hsl)
  clear hTl hsl g0 g1
  go_wp2_with fail
  go_loopw [11, 12] (fun Z I wr => ∃ (i : Nat) (b : Bool), I = .int .i64 (i : Int) ∧ i ≤ nl + 1 ∧ Z = .bool b ∧ Aside0 (Nw E o l i b) ∧ Aside0 (Below w4.heap.size w4 wr)) (fun _ I _ => nl + 1 - (intOf I).toNat)
  case atStart => exact ⟨0, false, rfl, Nat.zero_le _, rfl, ⟨fun h => by cases h⟩, ⟨Below.refl _ _⟩⟩
  case round =>
    obtain ⟨i, b, rfl, hi, rfl, HZ, HB⟩ := hrel
    have i3' : (i : Int) ≤ 31 := by have := H30.out; omega
    by_cases hin : i ≤ nl
    · have hnb : decide ((i : Int) ≤ (nl : Int)) = true := decide_eq_true (by omega)
      have hnc : decide (i ≤ nl) = true := decide_eq_true hin
      obtain ⟨hcut, hrd⟩ := cut_front ((HV.out.below HB4.out).below HB.out) hin
      have HRn := Aside0.mk (arun_any pa pg _ F S _ T E _ (l.take i) wr (HA4.out.below HB.out) (HG4.out.below HB.out) HTl.out.2 HTl.out.1 (stepG_ok (by have := HS.out.2.2; omega)) hrd (fun x hx => H.out.2.2.2.2.2 x (List.mem_of_mem_take hx)) (by rw [List.length_take]; have := Hn.out.2.2; have := H30.out; omega))
      rw [run_led HL.out.2.1 Ho.out.1 Ho.out.2 HS.out.1 (l.take i)] at HRn
      have Hin := Aside0.mk hin
      clear hin hi hrd
      go_wp2_with fail
      refine HRn.out.mono ?_
      rintro e w6 ⟨v1, S1, rfl, r1, r2, r3⟩
      have HZero := Aside0.mk (types_zero HL.out.2.1 Ho.out.1 Ho.out.2 HS.out.1 (by rw [Hn.out.1]; exact Nat.le_refl _) r2)
      have HB6 := Aside0.mk (bel_trans HB.out r3)
      obtain ⟨A5, c5, rfl, -, -⟩ := r1
      obtain ⟨m, hm⟩ : ∃ m, S1.length = m := ⟨_, rfl⟩
      rw [hm] at HZero ⊢
      clear r2 r3 hm hcut hnb hnc
      by_cases hm0 : m = 0
      · have HZ2 := Aside0.mk (show Nw E o l (i + 1) true from fun _ => HZero.out.1 hm0)
        subst hm0
        cases b with
        | true =>
          go_wp2_with fail
          go_roundw
          case rel => exact ⟨i + 1, true, by go_num, Nat.succ_le_succ Hin.out, rfl, HZ2, HB6⟩
          case measure => have := Hin.out; simp [intOf]; omega
        | false =>
          go_wp2_with fail
          go_roundw
          case rel => exact ⟨i + 1, true, by go_num, Nat.succ_le_succ Hin.out, rfl, HZ2, HB6⟩
          case measure => have := Hin.out; simp [intOf]; omega
      · have hbf : b = false := by
          cases b with
          | false => rfl
          | true => exact absurd (HZero.out.2 (led_more (HZ.out rfl))) hm0
        subst hbf
        have q1 : ((m : Int) == 0) = false := by simp; omega
        have q2 : decide ((m : Int) = 0) = false := decide_eq_false (by omega)
        have q3 : decide (m = 0) = false := decide_eq_false hm0
        have q4 : ¬ (m : Int) = 0 := by omega
        go_wp2_with fail
        go_roundw
        case rel => exact ⟨i + 1, false, by go_num, Nat.succ_le_succ Hin.out, rfl, ⟨fun h => by cases h⟩, HB6⟩
        case measure => have := Hin.out; simp [intOf]; omega
    · have hnb : decide ((i : Int) ≤ (nl : Int)) = false := decide_eq_false (by omega)
      have hnc : decide (i ≤ nl) = false := decide_eq_false hin
      obtain rfl : i = nl + 1 := by omega
      have HLn := Aside0.mk (alen_any pa pg _ F S _ wr (HA4.out.below HB.out))
      have hS0 : 0 < S.length := by have := HS.out.2.1.head.length_le; simp at this; omega
      have s0 : (0 : Int) < (S.length : Int) := by omega
      have s1 : (S.length : Int) ≤ 256 := by have := HS.out.2.2; omega
      have mk1 := mk_row S.length (by omega)
      obtain ⟨rb, hrb⟩ : ∃ b, wr.heap.size = b := ⟨_, rfl⟩
      obtain ⟨w1, hw1⟩ : ∃ x, wr.alloc (.cells (madeCells #[.bool false] S.length) 4) = x := ⟨_, rfl⟩
      have HRow := Aside0.mk (show RowB w1 rb S.length (fun _ => false) by rw [← hw1, ← hrb]; exact row_made wr S.length)
      have HB1 := Aside0.mk (bel_trans HB.out (show Below wr.heap.size wr w1 by rw [← hw1]; exact below_alloc (Below.refl _ _) _))
      have Hrb := Aside0.mk (show w4.heap.size ≤ rb by rw [← hrb]; exact HB.out.size)
      have HRow2 := Aside0.mk (HRow.out.set 0 true)
      have HB2' := Aside0.mk (HB1.out.setCell (p := ⟨rb, 0, none⟩) Hrb.out (.bool true))
      have e3 := HRow.out.cell hS0
      have e4 := HRow.out.free 0
      clear hin hi
      go_wp2_with fail
      refine HLn.out.mono ?_
      rintro e w6 ⟨rfl, rfl⟩
      go_wp2_with fail
      try simp only [hrb, hw1]
      clear hrb hw1 s0 s1 e3 e4 mk1
      obtain ⟨w7, hw7⟩ : ∃ x, w1.setCell ⟨rb, 0, none⟩ (.bool true) = x := ⟨_, rfl⟩
      rw [hw7] at HRow2 HB2' ⊢
      clear hw7 HRow HB1
      go_loopw [15] (fun I wx => ∃ (i : Nat) (f : Nat → Bool), I = .int .i64 (i : Int) ∧ i ≤ S.length ∧ Aside0 (RowB wx rb S.length f ∧ Met E S f i) ∧ Aside0 (Below w4.heap.size w4 wx)) (fun I _ => S.length - (intOf I).toNat)
      case atStart => exact ⟨0, _, rfl, Nat.zero_le _, ⟨HRow2.out, rfl, fun j h => absurd h (by omega)⟩, HB2'⟩
      case round =>
        obtain ⟨i, f, rfl, hi, HR, HC⟩ := hrel
        have i3' : (i : Int) ≤ 256 := by have := HS.out.2.2; omega
        have HLn := Aside0.mk (alen_any pa pg _ F S _ wr (HA4.out.below HC.out))
        by_cases hin : i < S.length
        · have hnb : decide ((i : Int) < (S.length : Int)) = true := decide_eq_true (by omega)
          have hnc : decide (i < S.length) = true := decide_eq_true hin
          have HFl := Aside0.mk (afields_any pa pg _ F S _ T E (i : Int) wr (HA4.out.below HC.out) (HG4.out.below HC.out) (fun s hs => ⟨HTl.out.2 s hs, (sm_ok HL.out.2.2 (HS.out.2.1.sm s hs).1).2⟩) (by have h := HL.out.1.2; have h2 := Hn.out.2.1; omega) (right_ok HL.out.2.2 HL.out.2.1))
          rw [fldG_nat hin] at HFl
          obtain ⟨fl, hfl⟩ : ∃ fl, fieldsG E (S.getD i []) = fl := ⟨_, rfl⟩
          rw [hfl] at HFl
          have Hin := Aside0.mk (And.intro hin hfl)
          clear hin hi hfl
          go_wp2_with fail
          refine HLn.out.mono ?_
          rintro e w6 ⟨rfl, rfl⟩
          go_wp2_with fail
          refine HFl.out.mono ?_
          rintro e w8 ⟨v1, rfl, r1, r3⟩
          obtain ⟨A5, c5, rfl, hc5, -⟩ := r1.rd
          have HF8 := Aside0.mk r1
          have HB8 := Aside0.mk (bel_trans HC.out r3)
          have HR8 := Aside0.mk (HR.out.1.below r3)
          have Hrl := Aside0.mk (show rb < wr.heap.size from HR.out.1.lt)
          obtain ⟨nf, hnf⟩ : ∃ nf, fl.length = nf := ⟨_, rfl⟩
          have Hnf := Aside0.mk (And.intro hnf (show nf ≤ 1000 by rw [← hnf, ← Hin.out.2]; exact Nat.le_trans (fields_len E _) (by have h := HL.out.1.2; have h2 := Hn.out.2.1; omega)))
          rw [hnf]
          clear r1 r3 hnf
          go_wp2_with fail
          go_loopw [17] (fun K wy => ∃ (k : Nat) (f : Nat → Bool), K = .int .i64 (k : Int) ∧ k ≤ nf ∧ Aside0 (RowB wy rb S.length f ∧ Met E S f i ∧ ∀ j, j < k → f (S.idxOf (nextG E (fl.getD j 0) (S.getD i []))) = true) ∧ Aside0 (Chg (fun b => b = rb) w8 wy)) (fun K _ => nf - (intOf K).toNat)
          case atStart => exact ⟨0, f, rfl, Nat.zero_le _, ⟨HR8.out, HR.out.2, fun j h => absurd h (by omega)⟩, ⟨Chg.refl _ _⟩⟩
          case round =>
            obtain ⟨k, g2, rfl, hk, HQ, HD⟩ := hrel
            have HBq := Aside0.mk (chg_own HB8.out (fun b (hb : b = rb) => by rw [hb]; exact Hrb.out) HD.out)
            by_cases hkn : k < nf
            · have hnb : decide ((k : Int) < (nf : Int)) = true := decide_eq_true (by omega)
              have hnc : decide (k < nf) = true := decide_eq_true hkn
              have k0 : (0 : Int) ≤ (k : Int) := by omega
              have k1 : (k : Int) < (nf : Int) := by omega
              have k2 : (k : Int) ≤ 1000 := by have := Hnf.out.2; omega
              obtain ⟨A6, c6, he6, -, hr6⟩ := own_far HF8.out Hrl.out HD.out
              cases he6
              obtain ⟨ad, rfl, e1⟩ := hr6.at_ (k : Int) (by omega) (by have := Hnf.out.1; omega)
              obtain ⟨x, hx⟩ : ∃ x, fl.getD k 0 = x := ⟨_, rfl⟩
              have e1 : wr.cell? (ad.add k) = some (.int .i64 x) := by rw [← hx]; simpa [rd] using e1
              have hxm : x ∈ fieldsG E (S.getD i []) := by rw [Hin.out.2, ← hx]; exact getD_mem (by have := Hnf.out.1; omega)
              obtain ⟨hs1, hs2⟩ := step_at HL.out.2.1 Ho.out.1 Ho.out.2 HS.out.1 Hin.out.1 hxm
              have HSt := Aside0.mk (astep_any pa pg _ F S _ (i : Int) x wr (HA4.out.below HBq.out) (ok64_of (by omega) (by omega)) (fields_ok H.out.2.2.2.2.1 _ x hxm))
              rw [hs1] at HSt
              obtain ⟨q, hq⟩ : ∃ q, S.idxOf (nextG E x (S.getD i [])) = q := ⟨_, rfl⟩
              rw [hq] at HSt hs2
              have HLm := Aside0.mk (alen_any pa pg _ F S _ wr (HA4.out.below HBq.out))
              have hfi : g2 i = true := met_at HL.out.2.1 Ho.out.1 Ho.out.2 HS.out.1 HQ.out.2.1 Hin.out.1
              have e3 := HQ.out.1.cell Hin.out.1
              rw [hfi] at e3
              have e4 := HQ.out.1.free q
              have e5 := HQ.out.1.cell hs2
              have q1 : decide ((q : Int) < 0) = false := decide_eq_false (by omega)
              have q2 : decide ((S.length : Int) ≤ (q : Int)) = false := decide_eq_false (by omega)
              have q3 : ¬ (q : Int) < 0 := by omega
              have q4 : ¬ (S.length : Int) ≤ (q : Int) := by omega
              have q5 : decide (S.length ≤ q) = false := decide_eq_false (by omega)
              have q6 : (0 : Int) ≤ (q : Int) := by omega
              have q7 : (q : Int) < (S.length : Int) := by omega
              have q8 : (q : Int) ≤ 256 := by have := HS.out.2.2; omega
              have p6 : (0 : Int) ≤ (i : Int) := by omega
              have p7 : (i : Int) < (S.length : Int) := by have := Hin.out.1; omega
              have HQ2 := Aside0.mk (And.intro (HQ.out.1.set q true) (And.intro (show Met E S (fun j => if j = q then true else g2 j) i from ⟨by show (if 0 = q then true else g2 0) = true; rw [HQ.out.2.1.1]; simp, fun j hj y hy => by
                  show (if S.idxOf (nextG E y (S.getD j [])) = q then true else g2 (S.idxOf (nextG E y (S.getD j [])))) = true
                  rw [HQ.out.2.1.2 j hj y hy]; simp⟩) (fun j (hj : j < k + 1) => (show (if S.idxOf (nextG E (fl.getD j 0) (S.getD i [])) = q then true else g2 (S.idxOf (nextG E (fl.getD j 0) (S.getD i [])))) = true by
                    by_cases e : j = k
                    · rw [e, hx, hq]; simp
                    · rw [HQ.out.2.2 j (by omega)]; simp))))
              have HD2 := Aside0.mk (HD.out.then_ (Chg.setCell wr (F := fun b => b = rb) (p := ⟨rb, q, none⟩) rfl (.bool true)) (fun b hb => .inl hb))
              have Hk := Aside0.mk hkn
              clear hkn hk hx hxm hs1 hs2 hq hfi hr6
              go_wp2_with fail
              refine HSt.out.mono ?_
              rintro e w9 ⟨rfl, rfl⟩
              go_wp2_with fail
              refine HLm.out.mono ?_
              rintro e w9 ⟨rfl, rfl⟩
              go_wp2_with fail
              go_roundw
              case rel => exact ⟨k + 1, _, by go_num, Hk.out, HQ2, HD2⟩
              case measure => have := Hk.out; simp [intOf]; omega
            · have hnb : decide ((k : Int) < (nf : Int)) = false := decide_eq_false (by omega)
              have hnc : decide (k < nf) = false := decide_eq_false hkn
              obtain rfl : k = nf := by omega
              have HM2 := Aside0.mk (show Met E S g2 (i + 1) from ⟨HQ.out.2.1.1, fun j hj y hy => by
                by_cases e : j = i
                · subst e
                  rw [Hin.out.2] at hy
                  obtain ⟨t, ht, rfl⟩ := List.getElem_of_mem hy
                  have := HQ.out.2.2 t (by have := Hnf.out.1; omega)
                  rw [List.getD_eq_getElem?_getD, List.getElem?_eq_getElem ht] at this
                  exact this
                · exact HQ.out.2.1.2 j (by omega) y hy⟩)
              clear hkn hk
              go_wp2_with fail
              go_roundw
              case rel => exact ⟨i + 1, g2, by go_num, Hin.out.1, ⟨HQ.out.1, HM2.out⟩, HBq⟩
              case measure => have := Hin.out.1; simp [intOf]; omega
        · have hnb : decide ((i : Int) < (S.length : Int)) = false := decide_eq_false (by omega)
          have hnc : decide (i < S.length) = false := decide_eq_false hin
          obtain rfl : i = S.length := by omega
          have HAll := Aside0.mk (fun (j : Nat) (hj : j < S.length) => met_at HL.out.2.1 Ho.out.1 Ho.out.2 HS.out.1 (f := f) (i := j) ⟨HR.out.2.1, fun j' hj' => HR.out.2.2 j' (by omega)⟩ hj)
          have s1 : (S.length : Int) ≤ 256 := by have := HS.out.2.2; omega
          clear hin hi
          go_wp2_with fail
          refine HLn.out.mono ?_
          rintro e w6 ⟨rfl, rfl⟩
          go_wp2_with fail
          go_loopw [19] (fun K wy => ∃ (k : Nat), K = .int .i64 (k : Int) ∧ k ≤ S.length ∧ Aside0 (RowB wy rb S.length f) ∧ Aside0 (Below w4.heap.size w4 wy)) (fun K _ => S.length - (intOf K).toNat)
          case atStart => exact ⟨0, rfl, Nat.zero_le _, ⟨HR.out.1⟩, HC⟩
          case round =>
            obtain ⟨k, rfl, hk, HQ, HD⟩ := hrel
            by_cases hkn : k < S.length
            · have hnb : decide ((k : Int) < (S.length : Int)) = true := decide_eq_true (by omega)
              have hnc : decide (k < S.length) = true := decide_eq_true hkn
              have k0 : (0 : Int) ≤ (k : Int) := by omega
              have k1 : (k : Int) < (S.length : Int) := by omega
              have k2 : (k : Int) ≤ 1000 := by omega
              have e3 := HQ.out.cell hkn
              rw [HAll.out k hkn] at e3
              have Hk := Aside0.mk hkn
              clear hkn hk
              go_wp2_with fail
              go_roundw
              case rel => exact ⟨k + 1, by go_num, Hk.out, HQ, HD⟩
              case measure => have := Hk.out; simp [intOf]; omega
            · have hnb : decide ((k : Int) < (S.length : Int)) = false := decide_eq_false (by omega)
              have hnc : decide (k < S.length) = false := decide_eq_false hkn
              obtain rfl : k = S.length := by omega
              have HB9 := Aside0.mk (bel_trans HBW.out (bel_trans HB4.out HD.out))
              clear hkn hk
              go_wp2_with fail
              go_ret
              exact ⟨rfl, by have h := HB9.out; first | exact h | (rw [hg] at h; exact h)⟩


end Go.Proofs.YtkpadjhdneiniaaGreatDoor.Am
