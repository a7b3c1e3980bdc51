/- Put, its answer the call's own; the document's Stable and Marks. -/
import Derived.Test.YtkpadjhdneiniaaDoorKu
namespace Go.Proofs.YtkpadjhdneiniaaDoor.Sb
set_option linter.unusedVariables false
open Go.RowKit Go.Proofs.YtkpadjhdneiniaaDoorW.PrintWords Go.Proofs.YtkpadjhdneiniaaDoorW.PrintLast Go.Proofs.YtkpadjhdneiniaaDoorW.PrintMore Go.Maps
open Go.Proofs.YtkpadjhdneiniaaDoor.Base Go.Proofs.YtkpadjhdneiniaaDoor.Map Go.Proofs.YtkpadjhdneiniaaDoor.Sl Go.Proofs.YtkpadjhdneiniaaDoor.Ow Go.Proofs.YtkpadjhdneiniaaDoor.Se Go.Proofs.YtkpadjhdneiniaaDoor.Gr Go.Proofs.YtkpadjhdneiniaaDoor.Rf Go.Proofs.YtkpadjhdneiniaaDoor.Tx Go.Proofs.YtkpadjhdneiniaaDoor.St

set_option maxHeartbeats 8000000 in
set_option maxRecDepth 100000 in
theorem put_moreO (u : Value) (l : List Int) (n : Int) (w : World) (hu : RdV w u l) (hs : Srt l) (h0 : 0 ≤ n) (h1 : n < 1048576) (hm : n ∉ l) (hl : l.length ≤ 1000000) :
    Calls Tryd.prog 35 #[u, .int .i64 n] w fun e w' => ∃ v, e = .returned v ∧ OwI w' w.heap.size v (ins l n) ∧ Below w.heap.size w w' := by
  have HU := Aside0.mk hu
  obtain ⟨A, c, rfl, hc, hr⟩ := hu
  have hb := below_le l n
  have hins := ins_new hm
  obtain ⟨b, hbb⟩ : ∃ b, below l n = b := ⟨_, rfl⟩
  rw [hbb] at hb hins
  have hlb : ∀ i, i < l.length → (l.getD i 0 < n ↔ i < b) := fun i hi => by rw [← hbb]; exact lt_below hs hi
  obtain ⟨A', c', hcut, hcutR⟩ := cut_from A c l (b : Int) (by omega) (by omega) hc
  rw [Int.toNat_natCast] at hcut hcutR
  obtain ⟨m, hmm⟩ : ∃ m, (l.drop b).length = m := ⟨_, rfl⟩
  rw [hmm] at hcut hcutR
  clear hmm
  have HR := Aside0.mk hr
  have Hc := Aside0.mk (And.intro hcutR (And.intro hins hlb))
  have Hl := Aside0.mk (And.intro hl hb)
  have Hm := Aside0.mk (decide_eq_false hm)
  have h2 : n ≤ 1048575 := by omega
  clear hr hc hs hm hl hb hbb hins hlb hcutR
  go_enter Tryd.func35, Tryd.ntmps35
  go_wp2_with fail
  refine (has_any _ l n w HU.out).mono ?_
  rintro e w1 ⟨rfl, r1⟩
  rw [Hm.out]
  have HB1 := Aside0.mk r1
  clear r1
  go_wp2_with fail
  go_loopw [5, 6] (fun V I wr => ∃ (i : Nat) (G : Nat → Prop), I = .int .i64 (i : Int) ∧ i ≤ b ∧ Aside0 (OwF wr G V (l.take i)) ∧ Aside0 (∀ k, G k → w.heap.size ≤ k) ∧ Aside0 (Below w.heap.size w wr)) (fun _ I _ => b - (intOf I).toNat)
  case atStart => exact ⟨0, fun _ => False, rfl, Nat.zero_le _, ⟨OwF.nil _ _⟩, ⟨fun k hk => hk.elim⟩, HB1⟩
  case round =>
    obtain ⟨i, G, rfl, hi, HO, HGb, HB⟩ := hrel
    by_cases hin : i < b
    · have hil : i < l.length := by have := Hl.out; omega
      have hnb : decide ((i : Int) < (l.length : Int)) = true := decide_eq_true (by omega)
      have hnc : decide (i < l.length) = true := decide_eq_true hil
      obtain ⟨ad, rfl, hx⟩ := (HR.out.below HB.out).at_ (i : Int) (by omega) (by omega)
      rw [Int.toNat_natCast] at hx
      have hx2 : rd l (i : Int) = l.getD i 0 := by simp [rd]
      have htk := take_get l i hil
      have hlt := (Hc.out.2.2 i hil).2 hin
      obtain ⟨x, hxx⟩ : ∃ x, l.getD i 0 = x := ⟨_, rfl⟩
      rw [hx2, hxx] at hx
      rw [hxx] at htk hlt
      have i0 : 0 ≤ (i : Int) := by omega
      have i1 : (i : Int) < (l.length : Int) := by omega
      have i2 : (i : Int) ≤ 1000000 := by have := Hl.out; omega
      have q1 : decide (x < n) = true := decide_eq_true hlt
      have Hin := Aside0.mk (And.intro hin (And.intro htk hil))
      clear hin hi hil hx2 hxx htk hlt
      replace i0 := eq_true i0
      replace i1 := eq_true i1
      have hal : Below wr.heap.size wr (wr.alloc (.cells #[.int .i64 x] 3)) := below_alloc (Below.refl _ _) _
      have HO3 := Aside0.mk (HO.out.below hal)
      have HRd : Aside0 (RdV (wr.alloc (.cells #[.int .i64 x] 3)) (.slice (some ⟨wr.heap.size, 0, none⟩) 1 1) [x]) := ⟨RdV.one (blk_cell (heap_alloc_new _ _) 0)⟩
      have HB3 := Aside0.mk (bel_trans HB.out hal)
      clear hal
      go_wp2_with (first | (at_builtin; refine appF (G := G) rfl (.tmp 31) (.tmp 36) rfl _ _ (l.take i) [x] rfl rfl HO3.out HRd.out (by have := Hl.out; have := Hin.out.2.2; simp; omega) ?_; intro v1 w3 ho1 hc1) | go_in)
      have hB2 : Below w.heap.size w w3 := ((Chg.of_below HB3.out (fun _ => False)).then_ hc1 (fun k hk => .inr (HGb.out k hk))).below (Nat.le_refl _) (fun k hk => hk.elim)
      have HB2 := Aside0.mk hB2
      have HG2 := Aside0.mk (show ∀ k, ext G (wr.alloc (.cells #[.int .i64 x] 3)) w3 k → w.heap.size ≤ k from fun k hk => hk.elim (HGb.out k) (fun h => by have h1 := h.1; have h2 := HB3.out.size; omega))
      have HO2 := Aside0.mk ho1
      clear ho1 hc1 hB2
      go_roundw
      case rel => exact ⟨i + 1, _, by go_num, Hin.out.1, ⟨by rw [Hin.out.2.1]; exact HO2.out⟩, HG2, HB2⟩
      case measure => have := Hin.out.1; simp [intOf]; omega
    · obtain rfl : i = b := by omega
      have HRw := Aside0.mk (HR.out.below HB.out)
      have tail : Aside0 (∀ w3 v1, OwF w3 (ext G (wr.alloc (.cells #[.int .i64 n] 3)) w3) v1 (l.take i ++ [n]) → Chg G (wr.alloc (.cells #[.int .i64 n] 3)) w3 → (∀ k, ext G (wr.alloc (.cells #[.int .i64 n] 3)) w3 k → w.heap.size ≤ k) ∧ Below w.heap.size w w3) := ⟨fun w3 v1 ho hc => by
        have hB3 := bel_trans HB.out (below_alloc (Below.refl wr.heap.size wr) (.cells #[.int .i64 n] 3))
        exact ⟨fun k hk => hk.elim (HGb.out k) (fun h => by have h1 := h.1; have h2 := hB3.size; omega), ((Chg.of_below hB3 (fun _ => False)).then_ hc (fun k hk => .inr (HGb.out k hk))).below (Nat.le_refl _) (fun k hk => hk.elim)⟩⟩
      have hal : Below wr.heap.size wr (wr.alloc (.cells #[.int .i64 n] 3)) := below_alloc (Below.refl _ _) _
      have HO3 := Aside0.mk (HO.out.below hal)
      have HRd : Aside0 (RdV (wr.alloc (.cells #[.int .i64 n] 3)) (.slice (some ⟨wr.heap.size, 0, none⟩) 1 1) [n]) := ⟨RdV.one (blk_cell (heap_alloc_new _ _) 0)⟩
      have i0 : 0 ≤ (i : Int) := by omega
      have i2 : (i : Int) ≤ 1000000 := by have := Hl.out; omega
      clear hal hi hin
      by_cases hil : i < l.length
      · have hnb : decide ((i : Int) < (l.length : Int)) = true := decide_eq_true (by omega)
        have hnc : decide (i < l.length) = true := decide_eq_true hil
        obtain ⟨ad, rfl, hx⟩ := HRw.out.at_ (i : Int) (by omega) (by omega)
        rw [Int.toNat_natCast] at hx
        have hx2 : rd l (i : Int) = l.getD i 0 := by simp [rd]
        have hlt : ¬ l.getD i 0 < n := fun h => by have := (Hc.out.2.2 i hil).1 h; omega
        obtain ⟨x, hxx⟩ : ∃ x, l.getD i 0 = x := ⟨_, rfl⟩
        rw [hx2, hxx] at hx
        rw [hxx] at hlt
        have i1 : (i : Int) < (l.length : Int) := by omega
        have i3 : (i : Int) ≤ (l.length : Int) := by omega
        have q1 : decide (x < n) = false := decide_eq_false hlt
        clear hil hx2 hxx hlt
        replace i0 := eq_true i0
        replace i1 := eq_true i1
        replace i3 := eq_true i3
        go_wp2_with (first
          | (at_builtin; refine appF (G := G) rfl (.tmp 40) (.tmp 42) rfl _ _ (l.take i) [n] rfl rfl HO3.out HRd.out (by have := Hl.out; simp; omega) ?_; intro v1 w3 ho1 hc1; have HT3 := Aside0.mk (tail.out w3 v1 ho1 hc1); have HO4 := Aside0.mk ho1; have HRc := Aside0.mk (Hc.out.1 w3 (HR.out.below HT3.out.2)); clear ho1 hc1)
          | (at_builtin; refine appF rfl (.tmp 44) (.tmp 47) rfl _ _ (l.take i ++ [n]) (l.drop i) rfl rfl HO4.out HRc.out (by have := Hl.out; simp; omega) ?_; intro v2 w4 ho2 hc2)
          | go_in)
        have hB4 := tail2 HT3.out.2 HT3.out.1 hc2
        go_ret
        exact ⟨_, rfl, by rw [Hc.out.2.1, show l.take i ++ n :: l.drop i = l.take i ++ [n] ++ l.drop i by simp]; exact Gr.OwF.own ho2 (fun k hk => hk.elim (HT3.out.1 k) (fun h => Nat.le_trans HT3.out.2.size h.1)), hB4⟩
      · have hnb : decide ((i : Int) < (l.length : Int)) = false := decide_eq_false (by omega)
        have hnc : decide (i < l.length) = false := decide_eq_false hil
        have i3 : (i : Int) ≤ (l.length : Int) := by have := Hl.out; omega
        clear hil
        replace i0 := eq_true i0
        replace i3 := eq_true i3
        go_wp2_with (first
          | (at_builtin; refine appF (G := G) rfl (.tmp 40) (.tmp 42) rfl _ _ (l.take i) [n] rfl rfl HO3.out HRd.out (by have := Hl.out; simp; omega) ?_; intro v1 w3 ho1 hc1; have HT3 := Aside0.mk (tail.out w3 v1 ho1 hc1); have HO4 := Aside0.mk ho1; have HRc := Aside0.mk (Hc.out.1 w3 (HR.out.below HT3.out.2)); clear ho1 hc1)
          | (at_builtin; refine appF rfl (.tmp 44) (.tmp 47) rfl _ _ (l.take i ++ [n]) (l.drop i) rfl rfl HO4.out HRc.out (by have := Hl.out; simp; omega) ?_; intro v2 w4 ho2 hc2)
          | go_in)
        have hB4 := tail2 HT3.out.2 HT3.out.1 hc2
        go_ret
        exact ⟨_, rfl, by rw [Hc.out.2.1, show l.take i ++ n :: l.drop i = l.take i ++ [n] ++ l.drop i by simp]; exact Gr.OwF.own ho2 (fun k hk => hk.elim (HT3.out.1 k) (fun h => Nat.le_trans HT3.out.2.size h.1)), hB4⟩
/-- Put: what came in, or a slice of its own -/
theorem put_own (u : Value) (l : List Int) (n : Int) (w : World) (base : Nat) (hu : OwI w base u l) (hs : Srt l) (hl : l.length ≤ 1000000) (hb : base ≤ w.heap.size) :
    Calls Tryd.prog 35 #[u, .int .i64 n] w fun e w' => ∃ v, e = .returned v ∧ OwI w' base v (addL l n) ∧ Below w.heap.size w w' := by
  by_cases h : 0 ≤ n ∧ n < 1048576
  · have e : addL l n = ins l n := if_pos h
    rw [e]
    by_cases hm : n ∈ l
    · refine (put_same u l n w hu.toV (.inr hm)).mono ?_
      rintro e w' ⟨rfl, hb⟩
      rw [ins_old hm]
      exact ⟨_, rfl, hu.below hb, hb⟩
    · refine (put_moreO u l n w hu.toV hs h.1 h.2 hm hl).mono ?_
      rintro e w' ⟨v, rfl, h1, h2⟩
      exact ⟨_, rfl, h1.lower hb, h2⟩
  · have e : addL l n = l := if_neg h
    rw [e]
    refine (put_same u l n w hu.toV (.inl h)).mono ?_
    rintro e w' ⟨rfl, hb⟩
    exact ⟨_, rfl, hu.below hb, hb⟩
open Classical in
noncomputable instance (n : Nat) (E : List GE) (tm : List Int) : Decidable (Stab n E tm) := Classical.propDecidable _
set_option maxHeartbeats 4000000 in
set_option maxRecDepth 100000 in
/-- the document's Stable, of a map that is right -/
theorem rstable_any (A A2 : Option Addr) (nT c c2 : Nat) (E : List GE) (u : Value) (tm : List Int) (w : World) (hE : RdE w A2 E) (hu : RdV w u tm) (hR : RightG tm.length E) (hd : Hd tm.length tm) (hl : tm.length ≤ 1000 ∧ E.length ≤ 1000) :
    Calls Tryd.prog 17 #[.agg #[.slice A nT c, .slice A2 E.length c2], u] w fun e w' => e = .returned (.bool (decide (Stab tm.length E tm))) ∧ Below w.heap.size w w' := by
  obtain ⟨nE, hnE⟩ : ∃ n, E.length = n := ⟨_, rfl⟩
  obtain ⟨W, hW⟩ : ∃ W, w.alloc (.cells #[.slice A nT c, .slice A2 nE c2] 25) = W := ⟨_, rfl⟩
  have HBW := Aside0.mk (show Below w.heap.size w W by rw [← hW]; exact below_alloc (Below.refl _ _) _)
  have Hb := Aside0.mk (show W.heap[w.heap.size]? = some (.cells #[.slice A nT c, .slice A2 nE c2] 25 (0, 0)) by rw [← hW]; exact heap_alloc_new _ _)
  have HX := Aside0.mk (rrefine_any A A2 nT c c2 E u tm W (hE.below HBW.out) (hu.below HBW.out) hR hl)
  have HU := Aside0.mk (fun (W1 : World) (hb : Below w.heap.size w W1) => hu.below hb)
  have HI := Aside0.mk (fun (out : List Int) (h : IsRef tm.length E tm out) => ref_self hR hd h)
  rw [hnE] at HX ⊢
  obtain ⟨B, hB⟩ : ∃ B, decide (Stab tm.length E tm) = B := ⟨_, rfl⟩
  rw [hB]
  have HBv := Aside0.mk hB
  obtain ⟨A3, c3, rfl, -, -⟩ := hu
  obtain ⟨n3, hn3⟩ : ∃ n, tm.length = n := ⟨_, rfl⟩
  rw [hn3] at HX HU ⊢
  obtain ⟨g, hg⟩ : ∃ g, w.heap.size = g := ⟨_, rfl⟩
  have Hg := Aside0.mk hg
  rw [hg] at Hb
  have g0 : W.cell? ⟨g, 0, none⟩ = some (.slice A nT c) := blk_cellD Hb.out 0 _ rfl
  have g1 : W.cell? ⟨g, 1, none⟩ = some (.slice A2 nE c2) := blk_cellD Hb.out 1 _ rfl
  have Hn3 := Aside0.mk hn3
  clear hE hR hd hl hnE hB hn3
  go_enter Tryd.func17, Tryd.ntmps17
  go_wp2_with fail
  clear hW hg
  refine HX.out.mono ?_
  rintro e w1 ⟨v, out, rfl, r1, r2, r3⟩
  have HV := Aside0.mk r1
  have HO := Aside0.mk r2
  have HB1 := Aside0.mk (bel_trans HBW.out r3)
  clear r1 r2 r3 HX
  go_wp2_with fail
  refine (same_any v _ out tm w1 HV.out (HU.out w1 HB1.out)).mono ?_
  rintro e w2 ⟨rfl, r1⟩
  have HB2 := Aside0.mk (bel_trans HB1.out r1)
  clear r1
  have hBe : B = decide (out = tm) := by
    rw [← HBv.out]
    by_cases h : out = tm
    · rw [decide_eq_true h]; exact decide_eq_true ((HI.out out (by rw [Hn3.out]; exact HO.out)).1 h)
    · rw [decide_eq_false h]; exact decide_eq_false (fun hs => h ((HI.out out (by rw [Hn3.out]; exact HO.out)).2 hs))
  rw [← hBe]
  clear hBe
  go_wp2_with fail
  go_ret
  exact ⟨rfl, HB2.out⟩
section
variable {ops : Array Oper} {rest : List Oper} {o : Oper} {a : Act} {Q : Exit → Act → World → Prop} {Kc : Act → World → Prop}
theorem appP_step {W : World} {G : Nat → Prop} (hw : Region.wanted o (yielded ops a.tmps) = true) (s x : Operand)
    (ho : o.op = .call { callee := .builtin .append, args := #[s, x], argTypes := #[38, 38] })
    (v u : Value) (xs ys : List (Int × Int)) (hs : a.eval s = v) (hx : a.eval x = u)
    (HO : OwP W G v xs) (HR : RdP W u ys) (hl : (xs.length + ys.length) * 16 ≤ 140737488355328)
    (h : ∀ v1 w1, OwP w1 (ext G W w1) v1 (xs ++ ys) → Chg G W w1 → Kc (a.put o.dst v1) w1) :
    if Region.wanted o (yielded ops a.tmps) = true then Oper.wp Tryd.prog o a W Kc Q else Kc (a.put o.dst undef) W := by
  obtain ⟨A, c, hu, _, HR⟩ := HR
  exact Kd.R_append_rows_step kP (w0 := W) 0 hw s x 38 42 (.agg #[.int .i64 0, .int .i64 0]) 16 ho Tryd.underlying38 info42 rfl (by decide) (by decide) v xs ys A _ c (fun k => G k ∨ W.heap.size ≤ k) (fun _ => False) hs (hx.trans hu) (Kd.R_mono HO.out (fun k hk => .inl hk)) HR (fun _ _ hk => hk) (fun _ hk => hk.elim) (fun _ hk => .inr hk) (Below.refl _ _) (Nat.zero_le _) hl
    (fun v1 w1 ho hb hg hat => h v1 w1 ⟨Kd.R_mono (Kd.R_bound ho) (fun k hk => hk.1.elim .inl (fun h => .inr ⟨h, hk.2.2.1⟩))⟩ (Chg.of_grown hg (fun k hk => HO.out.1 k hk)))
end
theorem put_more_cls (tm : List Int) (L : List Int) {k : Nat} (hk : k < L.length) {z : Int} (hz : tm.getD (L.getD k 0).toNat 0 = z) (h0 : 0 ≤ z ∧ z < 1048576) :
    addL (srtL ((L.take k).map fun x => tm.getD x.toNat 0)) z = srtL ((L.take (k + 1)).map fun x => tm.getD x.toNat 0) := by
  rw [Rf.take_get L k hk, List.map_append, List.map_singleton, hz, srtL_snoc]
  exact if_pos h0
set_option maxHeartbeats 16000000 in
set_option maxRecDepth 100000 in
theorem rmarks_any (A A2 : Option Addr) (nT c c2 : Nat) (E : List GE) (o : Int) (u : Value) (tm : List Int) (w : World) (hE : RdE w A2 E) (hu : RdV w u tm) (hR : RightG tm.length E) (hd : Hd tm.length tm) (hl : tm.length ≤ 1000 ∧ E.length ≤ 1000) :
    Calls Tryd.prog 18 #[.agg #[.slice A nT c, .slice A2 E.length c2], .int .i64 o, u] w fun e w' => ∃ v, e = .returned v ∧ RdP w' v (marksG E tm o) ∧ Below w.heap.size w w' := by
  have hEE : E.length * E.length ≤ 1000000 := Nat.mul_le_mul hl.2 hl.2
  have HEE := Aside0.mk hEE
  obtain ⟨nE, hnE⟩ : ∃ n, E.length = n := ⟨_, rfl⟩
  obtain ⟨W, hW⟩ : ∃ W, w.alloc (.cells #[.slice A nT c, .slice A2 nE c2] 25) = W := ⟨_, rfl⟩
  have HBW := Aside0.mk (show Below w.heap.size w W by rw [← hW]; exact below_alloc (Below.refl _ _) _)
  have Hb := Aside0.mk (show W.heap[w.heap.size]? = some (.cells #[.slice A nT c, .slice A2 nE c2] 25 (0, 0)) by rw [← hW]; exact heap_alloc_new _ _)
  have HE := Aside0.mk (hE.below HBW.out)
  obtain ⟨A3, c3, rfl, -, hr3⟩ := hu
  have HU := Aside0.mk (hr3.below HBW.out)
  obtain ⟨n, hn⟩ : ∃ n, tm.length = n := ⟨_, rfl⟩
  rw [hn] at hR hd hl ⊢
  have HR := Aside0.mk (And.intro hR hd)
  have Hn := Aside0.mk (And.intro hn (And.intro hnE hl))
  have HFi := Aside0.mk (fun (W1 : World) (hb : Below W.heap.size W W1) (v : Value) (hv : RdV W1 v [o]) => rfields_any A A2 nT c c2 E v [o] W1 (HE.out.below hb) hv hl.2)
  have HNx := Aside0.mk (fun (W1 : World) (hb : Below W.heap.size W W1) (f : Int) (v : Value) (hv : RdV W1 v [o]) => rnext_any A A2 nT c c2 E f v [o] W1 (HE.out.below hb) hv hl.2)
  rw [hnE] at HFi HNx ⊢
  obtain ⟨g, hg⟩ : ∃ g, w.heap.size = g := ⟨_, rfl⟩
  have Hg := Aside0.mk hg
  rw [hg] at Hb
  have g0 : W.cell? ⟨g, 0, none⟩ = some (.slice A nT c) := blk_cellD Hb.out 0 _ rfl
  have g1 : W.cell? ⟨g, 1, none⟩ = some (.slice A2 nE c2) := blk_cellD Hb.out 1 _ rfl
  clear hE hR hd hl hnE hn hr3 hEE
  go_enter Tryd.func18, Tryd.ntmps18
  go_wp2_with fail
  clear hW hg
  obtain ⟨W1, hW1⟩ : ∃ x, W.alloc (.cells #[.int .i64 o] 3) = x := ⟨_, rfl⟩
  have HB1 := Aside0.mk (show Below W.heap.size W W1 by rw [← hW1]; exact below_alloc (Below.refl _ _) _)
  have HO1 := Aside0.mk (show RdV W1 (.slice (some ⟨W.heap.size, 0, none⟩) 1 1) [o] by rw [← hW1]; exact RdV.one (blk_cell (heap_alloc_new _ _) 0))
  rw [hW1]
  clear hW1
  refine (HFi.out W1 HB1.out _ HO1.out).mono ?_
  rintro e w2 ⟨v8, rfl, r1, r2⟩
  have HV8 := Aside0.mk r1
  have HB2 := Aside0.mk (bel_trans HB1.out r2)
  clear r1 r2 g0 g1 HFi
  have hfm := fun i (hi : i < (fieldsG E [o]).length) (f : Int) (hf : (fieldsG E [o]).getD i 0 = f) => marksT_more E tm o hi hf
  have hfl := len_fields E [o]
  have hfa := marksT_all E tm o
  obtain ⟨L, hL⟩ : ∃ l, fieldsG E [o] = l := ⟨_, rfl⟩
  rw [hL] at HV8 hfm hfl hfa
  obtain ⟨A8, c8, rfl, -, hr8⟩ := HV8.out
  obtain ⟨m, hm⟩ : ∃ m, L.length = m := ⟨_, rfl⟩
  have HL := Aside0.mk (And.intro hr8 (And.intro hm (And.intro hfm (And.intro hfl hfa))))
  rw [hm]
  clear hL hr8 hm hfm hfl hfa HV8
  go_wp2_with fail
  go_loopw [7, 9] (fun V I wr => ∃ (i : Nat) (F : Nat → Prop), I = .int .i64 (i : Int) ∧ i ≤ m ∧ Aside0 (OwP wr F V (marksT E tm o i)) ∧ Aside0 (∀ k, F k → w2.heap.size ≤ k ∧ k < wr.heap.size) ∧ Aside0 (Below w2.heap.size w2 wr)) (fun _ I _ => m - (intOf I).toNat)
  case atStart => exact ⟨0, fun _ => False, rfl, Nat.zero_le _, ⟨OwP.nil _ _⟩, ⟨fun k hk => hk.elim⟩, ⟨Below.refl _ _⟩⟩
  case round =>
    obtain ⟨i, F, rfl, hi, HO, HFb, HB⟩ := hrel
    by_cases hin : i < m
    · have hnb : decide ((i : Int) < (m : Int)) = true := decide_eq_true (by omega)
      have hnc : decide (i < m) = true := decide_eq_true hin
      have hil : i < L.length := by rw [HL.out.2.1]; exact hin
      obtain ⟨ad, rfl, hx⟩ := (HL.out.1.below HB.out).at_ (i : Int) (by omega) (by omega)
      have hx : wr.cell? (ad.add i) = some (.int .i64 (L.getD i 0)) := by simpa [rd] using hx
      obtain ⟨f, hff⟩ : ∃ f, L.getD i 0 = f := ⟨_, rfl⟩
      have hst := HL.out.2.2.1 i hil f hff
      rw [hff] at hx
      have i0 : 0 ≤ (i : Int) := by omega
      have i1 : (i : Int) < (m : Int) := by omega
      have i2 : (i : Int) ≤ 1000000 := by have := HL.out.2.2.2.1; have := Hn.out; have := HL.out.2.1; omega
      have Hi2 := Aside0.mk i2
      have Hin := Aside0.mk (And.intro hin (And.intro hst hff))
      have HBw := Aside0.mk (bel_trans HB2.out HB.out)
      have hb := Ow.blk_below Hb.out HBw.out
      have g0 : wr.cell? ⟨g, 0, none⟩ = some (.slice A nT c) := blk_cellD hb 0 _ rfl
      have g1 : wr.cell? ⟨g, 1, none⟩ = some (.slice A2 nE c2) := blk_cellD hb 1 _ rfl
      clear hin hi hil hff hst hb
      replace i0 := eq_true i0
      replace i1 := eq_true i1
      have HBr := Below.refl wr.heap.size wr
      go_wp2_with fail
      go_region_held3 (fun W' => W'.cell? ⟨g, 0, none⟩ = some (.slice A nT c) ∧ W'.cell? ⟨g, 1, none⟩ = some (.slice A2 nE c2) ∧ W'.cell? (ad.add i) = some (.int .i64 f) ∧ Below wr.heap.size wr W') (first | (exact ⟨bel_cell HB9 g0, bel_cell HB9 g1, pw_cell_below HB9 hx, HB9⟩) | (refine ⟨pw_cell_below (w := wr) ?_ g0, pw_cell_below (w := wr) ?_ g1, pw_cell_below (w := wr) ?_ hx, ?_⟩ <;> simp [*]) | go_keep)
        (first
          | (go_at_call 34; (with_reducible refine (HNx.out _ (bel_trans HBw.out (by simp [*])) f _ (RdV.one (blk_cell (heap_alloc_new _ _) 0))).mono ?_); rintro e w3 ⟨v10, rfl, r1, r2⟩; have HB9 := bel_trans (wb := wr) (by simp [*]) r2)
          | fail)
      have hxm : ∀ x ∈ nextG E f [o], 0 ≤ x ∧ x < (n : Int) := fun x hx => by
        obtain ⟨a, h1, _⟩ := mem_nextG.1 hx
        have h2 := HR.out.1 _ h1
        exact ⟨h2.2.2.1, h2.2.2.2⟩
      have hcl : clsG E tm f o = srtL ((nextG E f [o]).map fun x => tm.getD x.toNat 0) := rfl
      have hnl := next_len E f [o]
      have HOb := Aside0.mk (HO.out.below HB9)
      have HB3 := Aside0.mk HB9
      obtain ⟨L2, hL2⟩ : ∃ l, nextG E f [o] = l := ⟨_, rfl⟩
      rw [hL2] at r1 hxm hcl hnl
      obtain ⟨A9, c9, rfl, -, hr9⟩ := r1
      obtain ⟨m2, hm2⟩ : ∃ m, L2.length = m := ⟨_, rfl⟩
      have HL2 := Aside0.mk (And.intro hr9 (And.intro hm2 (And.intro hxm (And.intro hnl hcl))))
      rw [hm2]
      clear hL2 hr9 hm2 hxm hnl hcl r2 HB9 g0 g1 hx HBr
      go_wp2_with fail
      go_loopw [11, 12] (fun V I wx => ∃ k : Nat, I = .int .i64 (k : Int) ∧ k ≤ m2 ∧ Aside0 (OwI wx w3.heap.size V (srtL ((L2.take k).map fun x => tm.getD x.toNat 0))) ∧ Aside0 (Below w3.heap.size w3 wx)) (fun _ I _ => m2 - (intOf I).toNat)
      case atStart => exact ⟨0, rfl, Nat.zero_le _, ⟨OwI.nil _ _⟩, ⟨Below.refl _ _⟩⟩
      case round =>
        obtain ⟨k, rfl, hk, HC, HBk⟩ := hrel
        by_cases hkn : k < m2
        · have hnb : decide ((k : Int) < (m2 : Int)) = true := decide_eq_true (by omega)
          have hnc : decide (k < m2) = true := decide_eq_true hkn
          have hkl : k < L2.length := by rw [HL2.out.2.1]; exact hkn
          obtain ⟨ad2, rfl, hy⟩ := (HL2.out.1.below HBk.out).at_ (k : Int) (by omega) (by omega)
          have hy : wr.cell? (ad2.add k) = some (.int .i64 (L2.getD k 0)) := by simpa [rd] using hy
          have hyb := HL2.out.2.2.1 _ (getD_memI hkl)
          obtain ⟨y, hyy⟩ : ∃ y, L2.getD k 0 = y := ⟨_, rfl⟩
          rw [hyy] at hy hyb
          obtain ⟨q, rfl⟩ := Int.eq_ofNat_of_zero_le hyb.1
          have hqn : q < n := by omega
          obtain ⟨ad3, rfl, hz⟩ := (HU.out.below (bel_trans HBw.out (bel_trans HB3.out HBk.out))).at_ (q : Int) (by omega) (by have := Hn.out.1; omega)
          have hz : wr.cell? (ad3.add q) = some (.int .i64 (tm.getD q 0)) := by simpa [rd] using hz
          obtain ⟨hh, hh1, hh2, _⟩ := HR.out.2.head q hqn
          obtain ⟨z, hzz⟩ : ∃ z, tm.getD q 0 = z := ⟨_, rfl⟩
          rw [hzz] at hz
          have hz0 : 0 ≤ z ∧ z < 1048576 := by rw [← hzz]; unfold cl at hh1; rw [hh1]; have := Hn.out; omega
          have hst := put_more_cls tm L2 hkl (z := z) (by rw [hyy]; exact hzz) hz0
          have hlen := len_srtL ((L2.take k).map fun x => tm.getD x.toNat 0)
          have HP := Aside0.mk (put_own u11 _ z wr w3.heap.size HC.out (srt_srtL _) (by rw [List.length_map, List.length_take] at hlen; have := HL2.out.2.2.2.1; have := Hn.out; omega) HBk.out.size)
          rw [hst] at HP
          have k0 : 0 ≤ (k : Int) := by omega
          have k1 : (k : Int) < (m2 : Int) := by omega
          have k2 : (k : Int) ≤ 1000000 := by have := HL2.out.2.2.2.1; have := Hn.out; have := HL2.out.2.1; omega
          have q0 : 0 ≤ (q : Int) := by omega
          have q1 : (q : Int) < (n : Int) := hyb.2
          have Hk := Aside0.mk hkn
          clear hkn hk hkl hyb hyy hzz hqn hst hlen hh1 hh2 hz0
          replace k0 := eq_true k0
          replace k1 := eq_true k1
          replace q0 := eq_true q0
          replace q1 := eq_true q1
          go_wp2_with fail
          refine HP.out.mono ?_
          rintro e w5 ⟨v11, rfl, r1, r2⟩
          have HC5 := Aside0.mk r1
          have HB5 := Aside0.mk (bel_trans HBk.out r2)
          clear r1 r2 HP
          go_wp2_with fail
          go_roundw
          case rel => exact ⟨k + 1, by go_num, Hk.out, HC5, HB5⟩
          case measure => have := Hk.out; simp [intOf]; omega
        · have hnb : decide ((k : Int) < (m2 : Int)) = false := decide_eq_false (by omega)
          have hnc : decide (k < m2) = false := decide_eq_false hkn
          obtain rfl : k = m2 := by omega
          have ht : L2.take k = L2 := List.take_of_length_le (by rw [HL2.out.2.1]; exact Nat.le_refl _)
          rw [ht, ← HL2.out.2.2.2.2] at HC
          clear hkn hk ht
          obtain ⟨w6, rfl⟩ : ∃ x, x = wr := ⟨_, rfl⟩
          have HC6 := Aside0.mk (OwF.of_own (F := fun k => w3.heap.size ≤ k ∧ k < w6.heap.size) HC.out (fun k h1 h2 => ⟨h1, h2⟩))
          obtain ⟨A45, c45, rfl, -, -⟩ := HC6.out.toV
          have hcl := cls_len E tm f o
          have hst := Hin.out.2.1
          obtain ⟨C, hC⟩ : ∃ C, clsG E tm f o = C := ⟨_, rfl⟩
          rw [hC] at HC6 hcl hst ⊢
          obtain ⟨m3, hm3⟩ : ∃ m, C.length = m := ⟨_, rfl⟩
          rw [hm3] at HC6 ⊢
          have Hm3 := Aside0.mk (And.intro hm3 (And.intro hcl hst))
          have HO6 := Aside0.mk (HOb.out.below HBk.out)
          have HS4 := Aside0.mk (show w2.heap.size ≤ w3.heap.size from Nat.le_trans HB.out.size HB3.out.size)
          have HB26 := Aside0.mk (bel_trans HB.out (bel_trans HB3.out HBk.out))
          have i2 := Hi2.out
          clear hcl hst hC hm3
          go_wp2_with fail
          go_loopw [7, 13] (fun V I wx => ∃ (k : Nat) (F' : Nat → Prop), I = .int .i64 (k : Int) ∧ k ≤ m3 ∧ Aside0 (OwP wx F' V (marksT E tm o i ++ (C.take k).map fun c => (f, c))) ∧ Aside0 (OwF wx (fun k => w3.heap.size ≤ k ∧ k < w6.heap.size) (.slice A45 m3 c45) C) ∧ Aside0 (∀ j, F' j → w2.heap.size ≤ j ∧ j < wx.heap.size) ∧ Aside0 (∀ j, F' j → ¬ (w3.heap.size ≤ j ∧ j < w6.heap.size)) ∧ Aside0 (Below w2.heap.size w2 wx ∧ w6.heap.size ≤ wx.heap.size)) (fun _ I _ => m3 - (intOf I).toNat)
          case atStart => exact ⟨0, F, rfl, Nat.zero_le _, ⟨by rw [List.take_zero, List.map_nil, List.append_nil]; exact HO6.out⟩, HC6, ⟨fun j hj => ⟨(HFb.out j hj).1, by have h1 := (HFb.out j hj).2; have h2 := HB3.out.size; have h3 := HBk.out.size; omega⟩⟩, ⟨fun j hj hg => by have h1 := (HFb.out j hj).2; have h2 := HB3.out.size; omega⟩, ⟨HB26.out, Nat.le_refl _⟩⟩
          case round =>
            obtain ⟨q, F', rfl, hq, HV, HC, HFb', HFG, HBq⟩ := hrel
            by_cases hqn : q < m3
            · have hnb : decide ((q : Int) < (m3 : Int)) = true := decide_eq_true (by omega)
              have hnc : decide (q < m3) = true := decide_eq_true hqn
              have hql : q < C.length := by rw [Hm3.out.1]; exact hqn
              obtain ⟨A', c', e', hc', hr'⟩ := HC.out.toV
              injection e' with ea eb ec
              obtain ⟨ad4, had, hz⟩ := hr'.at_ (q : Int) (by omega) (by omega)
              have had2 := ea.trans had
              clear ea eb ec hr' had hc'
              subst had2
              have hz : wr.cell? (ad4.add q) = some (.int .i64 (C.getD q 0)) := by simpa [rd] using hz
              obtain ⟨z, hzz⟩ : ∃ z, C.getD q 0 = z := ⟨_, rfl⟩
              rw [hzz] at hz
              obtain ⟨ad5, had5, hx⟩ := (HL.out.1.below HBq.out.1).at_ (i : Int) (by omega) (by have := Hin.out.1; have := HL.out.2.1; omega)
              cases had5
              have hx : wr.cell? (ad.add i) = some (.int .i64 (L.getD i 0)) := by simpa [rd] using hx
              rw [Hin.out.2.2] at hx
              have htk : (marksT E tm o i ++ (C.take q).map fun c => (f, c)) ++ [(f, z)] = marksT E tm o i ++ (C.take (q + 1)).map fun c => (f, c) := by
                rw [Rf.take_get C q hql, List.map_append, hzz, List.append_assoc]; rfl
              have q0 : 0 ≤ (q : Int) := by omega
              have q1 : (q : Int) < (m3 : Int) := by omega
              have q2 : (q : Int) ≤ 1000000 := by have := Hm3.out.2.1; have := Hn.out; have := Hm3.out.1; omega
              have i0 : 0 ≤ (i : Int) := by omega
              have i1 : (i : Int) < (m : Int) := by have := Hin.out.1; omega
              have Hq := Aside0.mk (And.intro hqn htk)
              have Hlen := Aside0.mk (show (marksT E tm o i ++ (C.take q).map fun c => (f, c)).length ≤ 2000000 by
                have h1 := marksT_len E tm o i
                have h2 := HEE.out
                have h3 := Hm3.out.2.1
                have h4 := Hn.out
                rw [List.length_append, List.length_map, List.length_take]; omega)
              have Hkf := Aside0.mk (fun (W7 : World) (hb : Below w2.heap.size w2 W7) => (show W7.cell? (ad.add i) = some (.int .i64 f) by
                obtain ⟨ad5, had5, hx⟩ := (HL.out.1.below hb).at_ (i : Int) (by omega) (by have := Hin.out.1; have := HL.out.2.1; omega)
                cases had5
                have hx : W7.cell? (ad.add i) = some (.int .i64 (L.getD i 0)) := by simpa [rd] using hx
                rw [Hin.out.2.2] at hx; exact hx))
              have Hkc := Aside0.mk (fun (W7 : World) (h : OwF W7 (fun k => w3.heap.size ≤ k ∧ k < w6.heap.size) (.slice (some ad4) m3 c45) C) => (show W7.cell? (ad4.add q) = some (.int .i64 z) by
                obtain ⟨A', c', e', hc', hr'⟩ := h.toV
                injection e' with ea eb ec
                obtain ⟨ad6, had, hz⟩ := hr'.at_ (q : Int) (by omega) (by omega)
                have had2 := ea.trans had
                cases had2
                have hz : W7.cell? (ad4.add q) = some (.int .i64 (C.getD q 0)) := by simpa [rd] using hz
                rw [hzz] at hz; exact hz))
              clear hqn hq hql hzz htk
              replace q0 := eq_true q0
              replace q1 := eq_true q1
              replace i0 := eq_true i0
              replace i1 := eq_true i1
              have HBr := Below.refl wr.heap.size wr
              go_wp2_with fail
              go_region_held3 (fun W' => W'.cell? (ad.add i) = some (.int .i64 f) ∧ W'.cell? (ad4.add q) = some (.int .i64 z)) (first | (exact ⟨Hkf.out _ (chg_own (bel_trans HBq.out.1 (by simp [*])) (fun k hk => (HFb'.out k hk).1) hc1), Hkc.out _ ((HC.out.below (by simp [*])).chg hc1 (fun k hk hF => HFG.out k hF hk))⟩) | (refine ⟨pw_cell_below (w := wr) ?_ hx, pw_cell_below (w := wr) ?_ hz⟩ <;> simp [*]) | go_keep)
                ((refine appP_step (G := F') (by rfl) (.tmp 53) (.tmp 63) (by rfl) u7 _ _ [(f, z)] (by rfl) (by rfl) (HV.out.below (by simp [*])) (RdP.lit (heap_alloc_new _ _)) (by have := Hlen.out; have e1 : [(f, z)].length = 1 := rfl; omega) ?_; intro v1 w7 ho1 hc1))
              have hal : Below wr.heap.size wr (wr.drew.alloc (.cells #[.int .i64 f, .int .i64 z] 42)) := below_alloc (below_drew (Below.refl _ _)) _
              have HB8 := Aside0.mk (bel_trans HBq.out.1 hal)
              have HB9 := Aside0.mk (chg_own HB8.out (fun k hk => (HFb'.out k hk).1) hc1)
              have HC9 := Aside0.mk ((HC.out.below hal).chg hc1 (fun k hk hF => HFG.out k hF hk))
              have Hsz := Aside0.mk (Nat.le_trans HBq.out.2 (Nat.le_trans hal.size hc1.size))
              have HF9 := Aside0.mk (fun j (hj : ext F' (wr.drew.alloc (.cells #[.int .i64 f, .int .i64 z] 42)) w7 j) => (show w2.heap.size ≤ j ∧ j < w7.heap.size from hj.elim (fun hj => ⟨(HFb'.out j hj).1, Nat.lt_of_lt_of_le (HFb'.out j hj).2 (Nat.le_trans hal.size hc1.size)⟩) (fun hj => ⟨Nat.le_trans HB8.out.size hj.1, hj.2⟩)))
              have HG9 := Aside0.mk (fun j (hj : ext F' (wr.drew.alloc (.cells #[.int .i64 f, .int .i64 z] 42)) w7 j) => (show ¬ (w3.heap.size ≤ j ∧ j < w6.heap.size) from fun hg => hj.elim (fun hj => HFG.out j hj hg) (fun hj => Nat.lt_irrefl _ (Nat.lt_of_lt_of_le hg.2 (Nat.le_trans HBq.out.2 (Nat.le_trans hal.size hj.1))))))
              have HO9 := Aside0.mk ho1
              rw [Hq.out.2] at HO9
              clear ho1 hc1 hal hx hz HBr
              go_wp2_with fail
              go_roundw
              case rel => exact ⟨q + 1, _, by go_num, Hq.out.1, HO9, HC9, HF9, HG9, ⟨HB9.out, Hsz.out⟩⟩
              case measure => have := Hq.out.1; simp [intOf]; omega
            · have hnb : decide ((q : Int) < (m3 : Int)) = false := decide_eq_false (by omega)
              have hnc : decide (q < m3) = false := decide_eq_false hqn
              obtain rfl : q = m3 := by omega
              have ht : C.take q = C := List.take_of_length_le (by rw [Hm3.out.1]; exact Nat.le_refl _)
              rw [ht, ← Hm3.out.2.2] at HV
              have HB9 := Aside0.mk HBq.out.1
              clear hqn hq ht
              go_wp2_with fail
              go_roundw
              case rel => exact ⟨i + 1, F', by go_num, Hin.out.1, HV, HFb', HB9⟩
              case measure => have := Hin.out.1; simp [intOf]; omega
    · have hnb : decide ((i : Int) < (m : Int)) = false := decide_eq_false (by omega)
      have hnc : decide (i < m) = false := decide_eq_false hin
      obtain rfl : i = m := by omega
      have hall := HL.out.2.2.2.2
      rw [HL.out.2.1] at hall
      rw [hall] at HO
      clear hin hi hall
      go_wp2_with fail
      go_ret
      exact ⟨_, rfl, HO.out.toV, by have h := bel_trans HBW.out (bel_trans HB2.out HB.out); first | exact h | (rw [Hg.out] at h; exact h) | (rw [Hg.out]; rw [Hg.out] at h; exact h)⟩
end Go.Proofs.YtkpadjhdneiniaaDoor.Sb
