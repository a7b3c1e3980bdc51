/- GraphBoth: its walk. -/
import Derived.Test.YtfgonclaiphoeaaGreatDoorZa
namespace Go.Proofs.YtfgonclaiphoeaaGreatDoor.Rf
set_option linter.unusedVariables false
open Go.RowKit Go.Proofs.YtfgonclaiphoeaaGreatDoorW.PrintWords Go.Proofs.YtfgonclaiphoeaaGreatDoorW.PrintLast Go.Proofs.YtfgonclaiphoeaaGreatDoorW.PrintMore Go.Maps
open Go.Proofs.YtfgonclaiphoeaaGreatDoor.Base Go.Proofs.YtfgonclaiphoeaaGreatDoor.Map Go.Proofs.YtfgonclaiphoeaaGreatDoor.Sl Go.Proofs.YtfgonclaiphoeaaGreatDoor.Ow Go.Proofs.YtfgonclaiphoeaaGreatDoor.Se Go.Proofs.YtfgonclaiphoeaaGreatDoor.Gr

/-! plain -/
theorem reach_take (n : Nat) (E : List GE) (os : List Int) (i : Nat) (hi : i < os.length) : insL (reachG n E (os.take i)) (reachG n E [os.getD i 0]) = reachG n E (os.take (i + 1)) := by
  have e : os[i] = os.getD i 0 := by simp [List.getElem?_eq_getElem hi]
  refine srt_ext (srt_insL (srt_reachG _ _ _)) (srt_reachG _ _ _) fun x => ?_
  rw [mem_insL, mem_reachG, mem_reachG, mem_reachG, List.take_succ_eq_append_getElem hi, e]
  constructor
  · rintro (h | h)
    · exact h.mono fun o ho h0 h1 => .base (List.mem_append_right _ ho) h0 h1
    · exact h.mono fun o ho h0 h1 => .base (List.mem_append_left _ ho) h0 h1
  · intro h
    induction h with
    | base h1 h2 h3 =>
      rcases List.mem_append.1 h1 with h1 | h1
      · exact .inr (.base h1 h2 h3)
      · exact .inl (.base h1 h2 h3)
    | step h1 h2 h3 h4 ih => exact ih.elim (fun h => .inl (.step h h2 h3 h4)) (fun h => .inr (.step h h2 h3 h4))
/-- a rising list of numbers below n -/
def Sm (n : Nat) (l : List Int) : Prop := Srt l ∧ ∀ x ∈ l, 0 ≤ x ∧ x < n
theorem Sm.len {n : Nat} {l : List Int} (h : Sm n l) : l.length ≤ n := srt_len h.1 (a := 0) (k := n) (fun x hx => by have := h.2 x hx; omega)
theorem sm_next {n : Nat} {E : List GE} (h : RightG n E) (f : Int) (os : List Int) : Sm n (nextG E f os) := ⟨srt_nextG _ _ _, fun x hx => by
  obtain ⟨a, h1, _⟩ := mem_nextG.1 hx
  exact ⟨(h _ h1).2.2.1, (h _ h1).2.2.2⟩⟩
theorem sm_reach (n : Nat) (E : List GE) (os : List Int) : Sm n (reachG n E os) := ⟨srt_reachG _ _ _, fun x hx => (mem_reachG.1 hx).lt⟩
theorem Sm.insL {n : Nat} {l ns : List Int} (h : Sm n l) (hn : ∀ x ∈ ns, 0 ≤ x ∧ x < n) : Sm n (insL l ns) := ⟨srt_insL h.1, fun x hx => (mem_insL.1 hx).elim (hn x) (h.2 x)⟩
theorem add_step {n : Nat} {l ns : List Int} {k : Nat} (hk : k < ns.length) (hn : Sm n ns) (h20 : n ≤ 20) : addL (Sl.insL l (ns.take k)) (ns.getD k 0) = Sl.insL l (ns.take (k + 1)) := by
  have hm : ns.getD k 0 ∈ ns := by rw [List.getD_eq_getElem?_getD, List.getElem?_eq_getElem hk]; exact List.getElem_mem hk
  have := hn.2 _ hm
  unfold addL
  rw [if_pos (by omega), take_get ns k hk]
  unfold Sl.insL
  rw [List.foldl_append]; rfl

set_option maxHeartbeats 16000000 in
set_option maxRecDepth 100000 in
theorem both_walk (A A2 : Option Addr) (c c2 : Nat) (T : List ByteArray) (E : List GE) (u : Value) (os : List Int) (f : Int) (w : World) (hT : TZ w) (hRT : RdT w A T) (hRE : RdE w A2 E) (hu : RdV w u os)
    (hok : ∀ a f z, (a, f, z) ∈ E → ok64 f) (ho : ∀ x ∈ os, ok64 x) (hf : ok64 f) :
    Calls Tryz.prog 3 #[.agg #[.slice A T.length c, .slice A2 E.length c2], u, .int .i64 f] w fun e w' => e = .returned (.bool true) ∧ Below w.heap.size w w' := by
  obtain ⟨A3, c3, rfl, hc3, hr3⟩ := hu
  obtain ⟨nT, hnT⟩ : ∃ n, T.length = n := ⟨_, rfl⟩
  obtain ⟨nE, hnE⟩ : ∃ n, E.length = n := ⟨_, rfl⟩
  obtain ⟨n3, hn3⟩ : ∃ n, os.length = n := ⟨_, rfl⟩
  have HU := Aside0.mk (show RdV w (.slice A3 os.length c3) os from ⟨A3, c3, rfl, hc3, hr3⟩)
  have HT := Aside0.mk hT
  have HRT := Aside0.mk hRT
  have HRE := Aside0.mk hRE
  have Hok := Aside0.mk (And.intro hok (And.intro ho hf))
  have Hn := Aside0.mk (And.intro hnT (And.intro hnE hn3))
  rw [hnT, hnE, hn3]
  clear hT hRT hRE hok ho hf hc3 hr3 hnT hnE hn3
  obtain ⟨w0, hw0⟩ : ∃ w0, w.alloc (.cells #[.slice A nT c, .slice A2 nE c2] 25) = w0 := ⟨_, rfl⟩
  have HB0 := Aside0.mk (show Below w.heap.size w w0 by rw [← hw0]; exact below_alloc (Below.refl _ _) _)
  have Hb0 := Aside0.mk (show w0.heap[w.heap.size]? = some (.cells #[.slice A nT c, .slice A2 nE c2] 25 (0, 0)) by rw [← hw0]; exact heap_alloc_new _ _)
  go_enter Tryz.func3, Tryz.ntmps3
  go_wp2_with fail
  clear hw0
  obtain ⟨g, hg⟩ : ∃ g, w.heap.size = g := ⟨_, rfl⟩
  have Hg := Aside0.mk hg
  rw [hg] at Hb0
  simp only [hg]
  clear hg
  refine (awake_any w0 (HT.out.below HB0.out)).mono ?_
  rintro e w1 ⟨rfl, r1⟩
  have HB1 := Aside0.mk (bel_trans HB0.out r1)
  have Hb1 := Aside0.mk (Ow.blk_below Hb0.out r1)
  have g0 : w1.cell? ⟨g, 0, none⟩ = some (.slice A nT c) := blk_cellD Hb1.out 0 _ rfl
  have g1 : w1.cell? ⟨g, 1, none⟩ = some (.slice A2 nE c2) := blk_cellD Hb1.out 1 _ rfl
  clear r1
  go_wp2_with fail
  refine (small_any A A2 nT c nE c2 w1).mono ?_
  rintro e w2 ⟨rfl, r1⟩
  have HB2 := Aside0.mk (bel_trans HB1.out r1)
  have Hb2 := Aside0.mk (Ow.blk_below Hb1.out r1)
  have g0 : w2.cell? ⟨g, 0, none⟩ = some (.slice A nT c) := blk_cellD Hb2.out 0 _ rfl
  have g1 : w2.cell? ⟨g, 1, none⟩ = some (.slice A2 nE c2) := blk_cellD Hb2.out 1 _ rfl
  clear r1
  by_cases hsm : nT ≤ 20 ∧ nE ≤ 60
  case neg =>
    have d1 : decide (nT ≤ 20 ∧ nE ≤ 60) = false := decide_eq_false hsm
    rw [d1]
    clear d1 hsm
    go_wp2_with fail
    refine (awake_any w2 (HT.out.below HB2.out)).mono ?_
    rintro e w3 ⟨rfl, r1⟩
    have HBx := Aside0.mk (bel_trans HB2.out r1)
    clear r1
    go_wp2_with fail
    go_ret
    exact ⟨rfl, HBx.out⟩
  have d1 : decide (nT ≤ 20 ∧ nE ≤ 60) = true := decide_eq_true hsm
  rw [d1]
  have Hsm := Aside0.mk hsm
  clear d1 hsm
  by_cases h3 : n3 ≤ 20
  case neg =>
    have d1 : decide ((n3 : Int) > 20) = true := decide_eq_true (by omega)
    have d2 : decide ((20 : Int) < (n3 : Int)) = true := decide_eq_true (by omega)
    have h3' : (20 : Int) < (n3 : Int) := by omega
    go_wp2_with fail
    refine (awake_any w2 (HT.out.below HB2.out)).mono ?_
    rintro e w3 ⟨rfl, r1⟩
    have HBx := Aside0.mk (bel_trans HB2.out r1)
    clear r1
    go_wp2_with fail
    go_ret
    exact ⟨rfl, HBx.out⟩
  have d1 : decide ((n3 : Int) > 20) = false := decide_eq_false (by omega)
  have d2 : decide ((20 : Int) < (n3 : Int)) = false := decide_eq_false (by omega)
  have h3' : ¬ (20 : Int) < (n3 : Int) := by omega
  have H3 := Aside0.mk h3
  clear h3
  go_wp2_with fail
  have RR := right_any A A2 nT c c2 E w2 (HRE.out.below HB2.out) (by have := Hsm.out; have := Hn.out.2.1; omega) (by have := Hsm.out; omega)
  rw [Hn.out.2.1] at RR
  refine RR.mono ?_
  clear RR
  rintro e w3 ⟨rfl, r1⟩
  have HB3 := Aside0.mk (bel_trans HB2.out r1)
  have Hb3 := Aside0.mk (Ow.blk_below Hb2.out r1)
  have g0 : w3.cell? ⟨g, 0, none⟩ = some (.slice A nT c) := blk_cellD Hb3.out 0 _ rfl
  have g1 : w3.cell? ⟨g, 1, none⟩ = some (.slice A2 nE c2) := blk_cellD Hb3.out 1 _ rfl
  clear r1
  by_cases hR : RightG nT E
  case neg =>
    have d3 : decide (RightG nT E) = false := decide_eq_false hR
    rw [d3]
    clear d3 hR
    go_wp2_with fail
    refine (awake_any w3 (HT.out.below HB3.out)).mono ?_
    rintro e w4 ⟨rfl, r1⟩
    have HBx := Aside0.mk (bel_trans HB3.out r1)
    clear r1
    go_wp2_with fail
    go_ret
    exact ⟨rfl, HBx.out⟩
  have d3 : decide (RightG nT E) = true := decide_eq_true hR
  rw [d3]
  have HR := Aside0.mk hR
  clear d3 hR d1 d2 h3'
  go_wp2_with fail
  have RN := new_any A c T A2 c2 E w3 (HRT.out.below HB3.out) (HRE.out.below HB3.out) (by rw [Hn.out.1]; have := Hsm.out; omega) (by rw [Hn.out.2.1]; have := Hsm.out; omega) Hok.out.1 (by rw [Hn.out.1]; exact HR.out)
  rw [Hn.out.2.1, Hn.out.1] at RN
  refine RN.mono ?_
  clear RN
  rintro e w4 ⟨p, lab, rfl, r1, r2⟩
  have HG := Aside0.mk (GA.mk ⟨lab, r1⟩)
  have HB4 := Aside0.mk (bel_trans HB3.out r2)
  clear r1 r2 lab g0 g1
  go_wp2_with fail
  go_loopw [9, 10, 11] (fun V1 V2 I wr => ∃ i : Nat, I = .int .i64 (i : Int) ∧ i ≤ n3 ∧ Aside0 (RdV wr V1 (nextG E f (os.take i))) ∧ Aside0 (RdV wr V2 (reachG nT E (os.take i))) ∧ Aside0 (Below w4.heap.size w4 wr)) (fun _ _ I _ => n3 - (intOf I).toNat)
  case atStart => exact ⟨0, rfl, Nat.zero_le _, ⟨by rw [List.take_zero, show nextG E f [] = [] from List.eq_nil_iff_forall_not_mem.2 fun x hx => by obtain ⟨a, _, h⟩ := mem_nextG.1 hx; cases h]; exact (OwI.nil w4 0).toV⟩, ⟨by rw [List.take_zero, show reachG nT E [] = [] from List.eq_nil_iff_forall_not_mem.2 fun x hx => by have h := mem_reachG.1 hx; clear hx; induction h with | base h => cases h | step _ _ _ _ ih => exact ih]; exact (OwI.nil w4 0).toV⟩, ⟨Below.refl _ _⟩⟩
  case round =>
    obtain ⟨i, rfl, hi, HV1, HV2, HBr⟩ := hrel
    have HUr := Aside0.mk (HU.out.below (bel_trans HB4.out HBr.out))
    have HTr := Aside0.mk (HT.out.below (bel_trans HB4.out HBr.out))
    have HGr := Aside0.mk (HG.out.below HBr.out)
    by_cases hin : i < n3
    · have hnb : decide ((i : Int) < (n3 : Int)) = true := decide_eq_true (by omega)
      have hnc : decide (i < n3) = true := decide_eq_true hin
      have hin' : i < os.length := by rw [Hn.out.2.2]; exact hin
      obtain ⟨A4, c4, e4, _, hr4⟩ := HUr.out
      injection e4 with e4a e4b e4c
      obtain ⟨ad, had, e0⟩ := hr4.at_ (i : Int) (by omega) (by omega)
      have had2 := e4a.trans had
      clear e4a e4b e4c hr4 had
      subst had2
      have e0 : wr.cell? (ad.add i) = some (.int .i64 (os.getD i 0)) := by simpa [rd] using e0
      obtain ⟨o, hoo⟩ : ∃ o, os.getD i 0 = o := ⟨_, rfl⟩
      rw [hoo] at e0
      have i0 : 0 ≤ (i : Int) := by omega
      have i1 : (i : Int) < (n3 : Int) := by omega
      have i2 : (i : Int) ≤ 1000000 := by have := H3.out; omega
      have Hin := Aside0.mk (And.intro hin' (And.intro hoo hin))
      have hoK : ok64 o := by rw [← hoo]; refine Hok.out.2.1 _ ?_; rw [List.getD_eq_getElem?_getD, List.getElem?_eq_getElem hin']; exact List.getElem_mem hin'
      have ho1 : ∀ x ∈ [o], ok64 x := fun x hx => by rw [List.mem_singleton] at hx; subst hx; exact hoK
      have HN := Aside0.mk (fun (W : World) (gg : Nat) (hb : Below wr.heap.size wr W) (hg : W.heap[gg]? = some (.cells #[.int .i64 o] 3 (0, 0))) => next_any p T E f (.slice (some ⟨gg, 0, none⟩) 1 1) [o] W (HGr.out.below hb) (rdV_lit (l := [o]) hg rfl (by simp)) (HTr.out.below hb) Hok.out.2.2 ho1 (by simp))
      have HRc := Aside0.mk (fun (W : World) (gg : Nat) (hb : Below wr.heap.size wr W) (hg : W.heap[gg]? = some (.cells #[.int .i64 o] 3 (0, 0))) => reach_any p T E (.slice (some ⟨gg, 0, none⟩) 1 1) [o] W (HGr.out.below hb) (rdV_lit (l := [o]) hg rfl (by simp)) (HTr.out.below hb) (by rw [Hn.out.1]; exact HR.out) Hok.out.1 ho1 (by rw [Hn.out.1, Hn.out.2.1]; have := Hsm.out; exact ⟨by simp, by omega, by omega⟩))
      clear hin hi hoo hoK ho1 hin'
      replace i0 := eq_true i0
      replace i1 := eq_true i1
      go_upto_region 10 with fail
      go_cut [12, 13] from 44 to 88 (fun v12 v13 wc => Aside0 (RdV wc v12 (nextG E f [o])) ∧ Aside0 (RdV wc v13 (reachG nT E [o])) ∧ Aside0 (Below wr.heap.size wr wc))
      case first =>
        have hs1 : (wr.alloc (.cells #[.int .i64 o] 3)).heap.size = wr.heap.size + 1 := Array.size_push ..
        have Hs1 := Aside0.mk hs1
        clear hs1
        refine wp_region_held_drew (S := (fun W' => W'.cell? (ad.add i) = some (.int .i64 o) ∧ Aside0 (Below wr.heap.size wr W'))) (by kernel_rfl) ?_ (fun hHeld => ?_)
        · exact ⟨e0, ⟨below_drew (Below.refl _ _)⟩⟩
        refine wpAnyH_take (i := 0) (oi := _) (v := ?_) (List.getElem?_toArray.trans rfl) (by kernel_rfl) (by kernel_rfl) (by kernel_rfl) (fun _ _ _ h => h) (Or.inl ⟨by rfl, ?_⟩) (by assumption) ?_
        rotate_left
        · intro w hSw; (try dsimp only at hSw); go_simp <;> with_reducible rfl
        try simp only [Act.put, List.setIfInBounds_toArray, List.set_cons_zero, List.set_cons_succ]
        refine wpAnyH_take (i := 1) (oi := _) (v := ?_) (List.getElem?_toArray.trans rfl) (by kernel_rfl) (by kernel_rfl) (by kernel_rfl) (fun _ _ _ h => h) (Or.inl ⟨by rfl, ?_⟩) (by assumption) ?_
        rotate_left
        · intro w hSw; (try dsimp only at hSw); go_simp <;> with_reducible rfl
        try simp only [Act.put, List.setIfInBounds_toArray, List.set_cons_zero, List.set_cons_succ]
        refine wpAnyH_take (i := 2) (oi := _) (v := ?_) (List.getElem?_toArray.trans rfl) (by kernel_rfl) (by kernel_rfl) (by kernel_rfl) (fun _ _ _ h => h) (Or.inl ⟨by rfl, ?_⟩) (by assumption) ?_
        rotate_left
        · intro w hSw; (try dsimp only at hSw); go_simp <;> with_reducible rfl
        try simp only [Act.put, List.setIfInBounds_toArray, List.set_cons_zero, List.set_cons_succ]
        refine wpAnyH_take (i := 3) (oi := _) (v := ?_) (List.getElem?_toArray.trans rfl) (by kernel_rfl) (by kernel_rfl) (by kernel_rfl) (fun _ _ _ h => h) (Or.inl ⟨by rfl, ?_⟩) (by assumption) ?_
        rotate_left
        · intro w hSw; (try dsimp only at hSw); go_simp <;> with_reducible rfl
        try simp only [Act.put, List.setIfInBounds_toArray, List.set_cons_zero, List.set_cons_succ]
        refine wpAnyH_take (i := 4) (oi := _) (v := ?_) (List.getElem?_toArray.trans rfl) (by kernel_rfl) (by kernel_rfl) (by kernel_rfl) (fun _ _ _ h => h) (Or.inl ⟨by rfl, ?_⟩) (by assumption) ?_
        rotate_left
        · intro w hSw; (try dsimp only at hSw); go_simp <;> with_reducible rfl
        try simp only [Act.put, List.setIfInBounds_toArray, List.set_cons_zero, List.set_cons_succ]
        refine wpAnyH_take (i := 5) (oi := _) (v := ?_) (List.getElem?_toArray.trans rfl) (by kernel_rfl) (by kernel_rfl) (by kernel_rfl) (fun _ _ _ h => h) (Or.inl ⟨by rfl, ?_⟩) (by assumption) ?_
        rotate_left
        · intro w hSw; (try dsimp only at hSw); go_simp <;> with_reducible rfl
        try simp only [Act.put, List.setIfInBounds_toArray, List.set_cons_zero, List.set_cons_succ]
        refine wpAnyH_take (i := 8) (oi := _) (v := ?_) (List.getElem?_toArray.trans rfl) (by kernel_rfl) (by kernel_rfl) (by kernel_rfl) (fun _ _ _ h => h) (Or.inl ⟨by rfl, ?_⟩) (by assumption) ?_
        rotate_left
        · intro w hSw; (try dsimp only at hSw); go_simp <;> with_reducible rfl
        try simp only [Act.put, List.setIfInBounds_toArray, List.set_cons_zero, List.set_cons_succ]
        refine wpAnyH_take (i := 9) (oi := _) (v := ?_) (List.getElem?_toArray.trans rfl) (by kernel_rfl) (by kernel_rfl) (by kernel_rfl) (fun _ _ _ h => h) (Or.inl ⟨by rfl, ?_⟩) (by assumption) ?_
        rotate_left
        · intro w hSw; (try dsimp only at hSw); go_simp <;> with_reducible rfl
        try simp only [Act.put, List.setIfInBounds_toArray, List.set_cons_zero, List.set_cons_succ]
        refine wpAnyH_take (i := 10) (oi := _) (v := ?_) (List.getElem?_toArray.trans rfl) (by kernel_rfl) (by kernel_rfl) (by kernel_rfl) (fun _ _ _ h => h) (Or.inl ⟨by rfl, ?_⟩) (by assumption) ?_
        rotate_left
        · intro w hSw; (try dsimp only at hSw); go_simp <;> with_reducible rfl
        try simp only [Act.put, List.setIfInBounds_toArray, List.set_cons_zero, List.set_cons_succ]
        refine wpAnyH_take (i := 11) (oi := _) (v := ?_) (List.getElem?_toArray.trans rfl) (by kernel_rfl) (by kernel_rfl) (by kernel_rfl) (fun _ _ _ h => h) (Or.inl ⟨by rfl, ?_⟩) (by assumption) ?_
        rotate_left
        · intro w hSw; (try dsimp only at hSw); go_simp <;> with_reducible rfl
        try simp only [Act.put, List.setIfInBounds_toArray, List.set_cons_zero, List.set_cons_succ]
        refine wpAnyH_take (i := 12) (oi := _) (v := ?_) (List.getElem?_toArray.trans rfl) (by kernel_rfl) (by kernel_rfl) (by kernel_rfl) (fun _ _ _ h => h) (Or.inl ⟨by rfl, ?_⟩) (by assumption) ?_
        rotate_left
        · intro w hSw; (try dsimp only at hSw); go_simp <;> with_reducible rfl
        try simp only [Act.put, List.setIfInBounds_toArray, List.set_cons_zero, List.set_cons_succ]
        refine wpAnyH_ready (rs := [6, 13]) (by kernel_rfl) (by simp) ?_
        refine (AllReadyH.cons (o := _) (List.getElem?_toArray.trans rfl) (fun K hK => ?_) (AllReadyH.cons (o := _) (List.getElem?_toArray.trans rfl) (fun K hK => ?_) AllReadyH.nil))
        · go_simp
          refine hK.out _ _ ?_ (fun hHeld => ?_)
          · exact ⟨cell_bel (below_drew (below_alloc (Below.refl _ _) _)) e0, ⟨below_drew (below_alloc (Below.refl _ _) _)⟩⟩
          clear hK K
          try simp only [Act.put, List.setIfInBounds_toArray, List.set_cons_zero, List.set_cons_succ]
          refine wpAnyH_ready (rs := [7, 13]) (by kernel_rfl) (by simp) ?_
          refine (AllReadyH.cons (o := _) (List.getElem?_toArray.trans rfl) (fun K hK => ?_) (AllReadyH.cons (o := _) (List.getElem?_toArray.trans rfl) (fun K hK => ?_) AllReadyH.nil))
          · go_simp
            (refine (HN.out _ wr.heap.size ?hb1 ?hg1).mono ?_; (case hb1 => exact below_drew (below_alloc (Below.refl _ _) _)); (case hg1 => first | exact Ow.blk_below (heap_alloc_new wr (.cells #[.int .i64 o] 3)) (below_drew (Below.refl _ _)) | exact (Ow.blk_below (heap_alloc_new _ _) HC7.out) | (refine Ow.blk_below ?_ HC7.out; rw [← Hs1.out]; exact heap_alloc_new _ _) | (exact Ow.blk_below (heap_alloc_new wr _) (bel_trans (below_drew (below_alloc (Below.refl _ _) _)) HC7.out))))
            rintro e w7 ⟨v7, rfl, r1, r2⟩
            have HC7 := Aside0.mk r2
            have HB7 := Aside0.mk (bel_trans (below_drew (below_alloc (Below.refl _ _) _)) r2)
            have HV7w := Aside0.mk (OwI.toV r1)
            clear r1 r2
            refine hK.out _ _ ?_ (fun hHeld => ?_)
            · exact ⟨cell_bel HB7.out e0, ⟨HB7.out⟩⟩
            clear hK K
            try simp only [Act.put, List.setIfInBounds_toArray, List.set_cons_zero, List.set_cons_succ]
            refine wpAnyH_ready (rs := [13]) (by kernel_rfl) (by simp) ?_
            refine (AllReadyH.cons (o := _) (List.getElem?_toArray.trans rfl) (fun K hK => ?_) AllReadyH.nil)
            go_simp
            refine hK.out _ _ ?_ (fun hHeld => ?_)
            · exact ⟨cell_bel (bel_trans HB7.out (below_alloc (Below.refl _ _) _)) e0, ⟨bel_trans HB7.out (below_alloc (Below.refl _ _) _)⟩⟩
            clear hK K
            try simp only [Act.put, List.setIfInBounds_toArray, List.set_cons_zero, List.set_cons_succ]
            refine wpAnyH_ready (rs := [14]) (by kernel_rfl) (by simp) ?_
            refine (AllReadyH.cons (o := _) (List.getElem?_toArray.trans rfl) (fun K hK => ?_) AllReadyH.nil)
            go_simp
            (refine (HRc.out _ w7.heap.size ?hb2 ?hg2).mono ?_; (case hb2 => exact bel_trans HB7.out (below_alloc (Below.refl _ _) _)); (case hg2 => first | exact heap_alloc_new w7 _ | exact (Ow.blk_below (heap_alloc_new _ _) HC7.out) | (refine Ow.blk_below ?_ HC7.out; rw [← Hs1.out]; exact heap_alloc_new _ _) | (exact Ow.blk_below (heap_alloc_new wr _) (bel_trans (below_drew (below_alloc (Below.refl _ _) _)) HC7.out))))
            rintro e w14 ⟨v14, rfl, r1, r2⟩
            have HC14 := Aside0.mk r2
            have HB14 := Aside0.mk (bel_trans (bel_trans HB7.out (below_alloc (Below.refl _ _) _)) r2)
            have HV14 := Aside0.mk (OwI.toV r1)
            rw [Hn.out.1] at HV14
            have HV7 := Aside0.mk (HV7w.out.below (bel_trans (below_alloc (Below.refl _ _) _) r2))
            clear r1 r2
            refine hK.out _ _ ?_ (fun hHeld => ?_)
            · exact ⟨cell_bel HB14.out e0, ⟨HB14.out⟩⟩
            clear hK K
            try simp only [Act.put, List.setIfInBounds_toArray, List.set_cons_zero, List.set_cons_succ]
            refine wpAnyH_ready (rs := [15]) (by kernel_rfl) (by simp) ?_
            refine (AllReadyH.cons (o := _) (List.getElem?_toArray.trans rfl) (fun K hK => ?_) AllReadyH.nil)
            go_simp
            refine hK.out _ _ ?_ (fun hHeld => ?_)
            · exact ⟨cell_bel HB14.out e0, ⟨HB14.out⟩⟩
            clear hK K
            try simp only [Act.put, List.setIfInBounds_toArray, List.set_cons_zero, List.set_cons_succ]
            refine wpAnyH_ready (rs := [16]) (by kernel_rfl) (by simp) ?_
            refine (AllReadyH.cons (o := _) (List.getElem?_toArray.trans rfl) (fun K hK => ?_) AllReadyH.nil)
            go_simp
            refine hK.out _ _ ?_ (fun hHeld => ?_)
            · exact ⟨cell_bel HB14.out e0, ⟨HB14.out⟩⟩
            clear hK K
            try simp only [Act.put, List.setIfInBounds_toArray, List.set_cons_zero, List.set_cons_succ]
            refine wpAnyH_done (by kernel_rfl) ?_ _
            go_wp2_with fail
            go_meet
            case rel => exact ⟨HV7, HV14, HB14⟩
          · go_simp
            refine hK.out _ _ ?_ (fun hHeld => ?_)
            · exact ⟨cell_bel (below_drew (below_alloc (below_alloc (Below.refl _ _) _) _)) e0, ⟨below_drew (below_alloc (below_alloc (Below.refl _ _) _) _)⟩⟩
            clear hK K
            try simp only [Act.put, List.setIfInBounds_toArray, List.set_cons_zero, List.set_cons_succ]
            refine wpAnyH_ready (rs := [7]) (by kernel_rfl) (by simp) ?_
            refine (AllReadyH.cons (o := _) (List.getElem?_toArray.trans rfl) (fun K hK => ?_) AllReadyH.nil)
            go_simp
            (refine (HN.out _ wr.heap.size ?hb3 ?hg3).mono ?_; (case hb3 => exact below_drew (below_alloc (below_alloc (Below.refl _ _) _) _)); (case hg3 => first | exact Ow.blk_below (heap_alloc_new wr (.cells #[.int .i64 o] 3)) (below_drew (below_alloc (Below.refl _ _) _)) | exact (Ow.blk_below (heap_alloc_new _ _) HC7.out) | (refine Ow.blk_below ?_ HC7.out; rw [← Hs1.out]; exact heap_alloc_new _ _) | (exact Ow.blk_below (heap_alloc_new wr _) (bel_trans (below_drew (below_alloc (Below.refl _ _) _)) HC7.out))))
            rintro e w7 ⟨v7, rfl, r1, r2⟩
            have HC7 := Aside0.mk r2
            have HB7 := Aside0.mk (bel_trans (below_drew (below_alloc (below_alloc (Below.refl _ _) _) _)) r2)
            have HV7w := Aside0.mk (OwI.toV r1)
            clear r1 r2
            refine hK.out _ _ ?_ (fun hHeld => ?_)
            · exact ⟨cell_bel HB7.out e0, ⟨HB7.out⟩⟩
            clear hK K
            try simp only [Act.put, List.setIfInBounds_toArray, List.set_cons_zero, List.set_cons_succ]
            refine wpAnyH_ready (rs := [14]) (by kernel_rfl) (by simp) ?_
            refine (AllReadyH.cons (o := _) (List.getElem?_toArray.trans rfl) (fun K hK => ?_) AllReadyH.nil)
            go_simp
            (refine (HRc.out _ (wr.heap.size + 1) ?hb4 ?hg4).mono ?_; (case hb4 => exact HB7.out); (case hg4 => first | exact (by rw [← Hs1.out]; exact heap_alloc_new (wr.alloc (.cells #[.int .i64 o] 3)) _) | exact (Ow.blk_below (heap_alloc_new _ _) HC7.out) | (refine Ow.blk_below ?_ HC7.out; rw [← Hs1.out]; exact heap_alloc_new _ _) | (exact Ow.blk_below (heap_alloc_new wr _) (bel_trans (below_drew (below_alloc (Below.refl _ _) _)) HC7.out))))
            rintro e w14 ⟨v14, rfl, r1, r2⟩
            have HC14 := Aside0.mk r2
            have HB14 := Aside0.mk (bel_trans (HB7.out) r2)
            have HV14 := Aside0.mk (OwI.toV r1)
            rw [Hn.out.1] at HV14
            have HV7 := Aside0.mk (HV7w.out.below r2)
            clear r1 r2
            refine hK.out _ _ ?_ (fun hHeld => ?_)
            · exact ⟨cell_bel HB14.out e0, ⟨HB14.out⟩⟩
            clear hK K
            try simp only [Act.put, List.setIfInBounds_toArray, List.set_cons_zero, List.set_cons_succ]
            refine wpAnyH_ready (rs := [15]) (by kernel_rfl) (by simp) ?_
            refine (AllReadyH.cons (o := _) (List.getElem?_toArray.trans rfl) (fun K hK => ?_) AllReadyH.nil)
            go_simp
            refine hK.out _ _ ?_ (fun hHeld => ?_)
            · exact ⟨cell_bel HB14.out e0, ⟨HB14.out⟩⟩
            clear hK K
            try simp only [Act.put, List.setIfInBounds_toArray, List.set_cons_zero, List.set_cons_succ]
            refine wpAnyH_ready (rs := [16]) (by kernel_rfl) (by simp) ?_
            refine (AllReadyH.cons (o := _) (List.getElem?_toArray.trans rfl) (fun K hK => ?_) AllReadyH.nil)
            go_simp
            refine hK.out _ _ ?_ (fun hHeld => ?_)
            · exact ⟨cell_bel HB14.out e0, ⟨HB14.out⟩⟩
            clear hK K
            try simp only [Act.put, List.setIfInBounds_toArray, List.set_cons_zero, List.set_cons_succ]
            refine wpAnyH_done (by kernel_rfl) ?_ _
            go_wp2_with fail
            go_meet
            case rel => exact ⟨HV7, HV14, HB14⟩
        · go_simp
          refine hK.out _ _ ?_ (fun hHeld => ?_)
          · exact ⟨cell_bel (below_drew (below_alloc (Below.refl _ _) _)) e0, ⟨below_drew (below_alloc (Below.refl _ _) _)⟩⟩
          clear hK K
          try simp only [Act.put, List.setIfInBounds_toArray, List.set_cons_zero, List.set_cons_succ]
          refine wpAnyH_ready (rs := [6]) (by kernel_rfl) (by simp) ?_
          refine (AllReadyH.cons (o := _) (List.getElem?_toArray.trans rfl) (fun K hK => ?_) AllReadyH.nil)
          go_simp
          refine hK.out _ _ ?_ (fun hHeld => ?_)
          · exact ⟨cell_bel (below_drew (below_alloc (below_alloc (Below.refl _ _) _) _)) e0, ⟨below_drew (below_alloc (below_alloc (Below.refl _ _) _) _)⟩⟩
          clear hK K
          try simp only [Act.put, List.setIfInBounds_toArray, List.set_cons_zero, List.set_cons_succ]
          refine wpAnyH_ready (rs := [7]) (by kernel_rfl) (by simp) ?_
          refine (AllReadyH.cons (o := _) (List.getElem?_toArray.trans rfl) (fun K hK => ?_) AllReadyH.nil)
          go_simp
          (refine (HN.out _ (wr.heap.size + 1) ?hb5 ?hg5).mono ?_; (case hb5 => exact below_drew (below_alloc (below_alloc (Below.refl _ _) _) _)); (case hg5 => first | exact (by rw [← Hs1.out]; exact heap_alloc_new (wr.alloc (.cells #[.int .i64 o] 3)) _) | exact (Ow.blk_below (heap_alloc_new _ _) HC7.out) | (refine Ow.blk_below ?_ HC7.out; rw [← Hs1.out]; exact heap_alloc_new _ _) | (exact Ow.blk_below (heap_alloc_new wr _) (bel_trans (below_drew (below_alloc (Below.refl _ _) _)) HC7.out))))
          rintro e w7 ⟨v7, rfl, r1, r2⟩
          have HC7 := Aside0.mk r2
          have HB7 := Aside0.mk (bel_trans (below_drew (below_alloc (below_alloc (Below.refl _ _) _) _)) r2)
          have HV7w := Aside0.mk (OwI.toV r1)
          clear r1 r2
          refine hK.out _ _ ?_ (fun hHeld => ?_)
          · exact ⟨cell_bel HB7.out e0, ⟨HB7.out⟩⟩
          clear hK K
          try simp only [Act.put, List.setIfInBounds_toArray, List.set_cons_zero, List.set_cons_succ]
          refine wpAnyH_ready (rs := [14]) (by kernel_rfl) (by simp) ?_
          refine (AllReadyH.cons (o := _) (List.getElem?_toArray.trans rfl) (fun K hK => ?_) AllReadyH.nil)
          go_simp
          (refine (HRc.out _ wr.heap.size ?hb6 ?hg6).mono ?_; (case hb6 => exact HB7.out); (case hg6 => first | exact Ow.blk_below (heap_alloc_new wr (.cells #[.int .i64 o] 3)) (bel_trans (below_drew (below_alloc (Below.refl _ _) _)) HC7.out) | exact (Ow.blk_below (heap_alloc_new _ _) HC7.out) | (refine Ow.blk_below ?_ HC7.out; rw [← Hs1.out]; exact heap_alloc_new _ _) | (exact Ow.blk_below (heap_alloc_new wr _) (bel_trans (below_drew (below_alloc (Below.refl _ _) _)) HC7.out))))
          rintro e w14 ⟨v14, rfl, r1, r2⟩
          have HC14 := Aside0.mk r2
          have HB14 := Aside0.mk (bel_trans (HB7.out) r2)
          have HV14 := Aside0.mk (OwI.toV r1)
          rw [Hn.out.1] at HV14
          have HV7 := Aside0.mk (HV7w.out.below r2)
          clear r1 r2
          refine hK.out _ _ ?_ (fun hHeld => ?_)
          · exact ⟨cell_bel HB14.out e0, ⟨HB14.out⟩⟩
          clear hK K
          try simp only [Act.put, List.setIfInBounds_toArray, List.set_cons_zero, List.set_cons_succ]
          refine wpAnyH_ready (rs := [15]) (by kernel_rfl) (by simp) ?_
          refine (AllReadyH.cons (o := _) (List.getElem?_toArray.trans rfl) (fun K hK => ?_) AllReadyH.nil)
          go_simp
          refine hK.out _ _ ?_ (fun hHeld => ?_)
          · exact ⟨cell_bel HB14.out e0, ⟨HB14.out⟩⟩
          clear hK K
          try simp only [Act.put, List.setIfInBounds_toArray, List.set_cons_zero, List.set_cons_succ]
          refine wpAnyH_ready (rs := [16]) (by kernel_rfl) (by simp) ?_
          refine (AllReadyH.cons (o := _) (List.getElem?_toArray.trans rfl) (fun K hK => ?_) AllReadyH.nil)
          go_simp
          refine hK.out _ _ ?_ (fun hHeld => ?_)
          · exact ⟨cell_bel HB14.out e0, ⟨HB14.out⟩⟩
          clear hK K
          try simp only [Act.put, List.setIfInBounds_toArray, List.set_cons_zero, List.set_cons_succ]
          refine wpAnyH_done (by kernel_rfl) ?_ _
          go_wp2_with fail
          go_meet
          case rel => exact ⟨HV7, HV14, HB14⟩
      case rest =>
        obtain ⟨H12, H13, HBc⟩ := hcut
        obtain ⟨A5, c5, rfl, hc5, hr5⟩ := H12.out
        obtain ⟨A6, c6, rfl, hc6, hr6⟩ := H13.out
        have S5 : Sm nT (nextG E f [o]) := sm_next HR.out f [o]
        have S6 : Sm nT (reachG nT E [o]) := sm_reach nT E [o]
        have hq1 : Sl.insL (nextG E f (os.take i)) (nextG E f [o]) = nextG E f (os.take (i + 1)) := by rw [← Hin.out.2.1]; exact next_take E f os i Hin.out.1
        have hq2 : Sl.insL (reachG nT E (os.take i)) (reachG nT E [o]) = reachG nT E (os.take (i + 1)) := by rw [← Hin.out.2.1]; exact reach_take nT E os i Hin.out.1
        have Hq := Aside0.mk (And.intro hq1 hq2)
        have HS1 := Aside0.mk (sm_next HR.out f (os.take i))
        have HS2 := Aside0.mk (sm_reach nT E (os.take i))
        obtain ⟨L1, hL1⟩ : ∃ l, nextG E f [o] = l := ⟨_, rfl⟩
        obtain ⟨L2, hL2⟩ : ∃ l, reachG nT E [o] = l := ⟨_, rfl⟩
        obtain ⟨M1, hM1⟩ : ∃ l, nextG E f (os.take i) = l := ⟨_, rfl⟩
        obtain ⟨M2, hM2⟩ : ∃ l, reachG nT E (os.take i) = l := ⟨_, rfl⟩
        rw [hL1] at hr5 hc5 S5 Hq ⊢
        rw [hL2] at hr6 hc6 S6 Hq ⊢
        rw [hM1] at HV1 HS1 Hq
        rw [hM2] at HV2 HS2 Hq
        have HV1c := Aside0.mk (HV1.out.below HBc.out)
        have HV2c := Aside0.mk (HV2.out.below HBc.out)
        obtain ⟨m5, hm5⟩ : ∃ m, L1.length = m := ⟨_, rfl⟩
        obtain ⟨m6, hm6⟩ : ∃ m, L2.length = m := ⟨_, rfl⟩
        have Hr5 := Aside0.mk (And.intro hr5 (And.intro S5 hm5))
        have Hr6 := Aside0.mk (And.intro hr6 (And.intro S6 hm6))
        rw [hm5, hm6]
        clear hq1 hq2 hL1 hL2 hM1 hM2 hr5 hr6 hc5 hc6 S5 S6 hm5 hm6 H12 H13 HV1 HV2
        go_wp2_with fail
        go_loopw [9, 14] (fun V K wr => ∃ k : Nat, K = .int .i64 (k : Int) ∧ k ≤ m5 ∧ Aside0 (RdV wr V (Sl.insL M1 (L1.take k))) ∧ Aside0 (Below wc.heap.size wc wr)) (fun _ K _ => m5 - (intOf K).toNat)
        case atStart => exact ⟨0, rfl, Nat.zero_le _, HV1c, ⟨Below.refl _ _⟩⟩
        case round =>
          obtain ⟨k, rfl, hk, HV, HBk⟩ := hrel
          by_cases hkn : k < m5
          · have hnb : decide ((k : Int) < (m5 : Int)) = true := decide_eq_true (by omega)
            have hnc : decide (k < m5) = true := decide_eq_true hkn
            have hkn' : k < L1.length := by rw [Hr5.out.2.2]; exact hkn
            have hm20 : m5 ≤ 20 := by have := Hr5.out.2.1.len; have := Hsm.out; have := Hr5.out.2.2; omega
            obtain ⟨ad5, rfl, e5⟩ := (Hr5.out.1.below HBk.out).at_ (k : Int) (by omega) (by omega)
            have e5 : wr.cell? (ad5.add k) = some (.int .i64 (L1.getD k 0)) := by simpa [rd] using e5
            have k0 : 0 ≤ (k : Int) := by omega
            have k1 : (k : Int) < (m5 : Int) := by omega
            have k2 : (k : Int) ≤ 1000000 := by omega
            have HP := Aside0.mk (put_any _ _ (L1.getD k 0) wr HV.out (HS1.out.insL (fun x hx => Hr5.out.2.1.2 x (List.mem_of_mem_take hx))).1 (by have := (HS1.out.insL (fun x hx => Hr5.out.2.1.2 x (List.mem_of_mem_take hx)) : Sm nT (Sl.insL M1 (L1.take k))).len; have := Hsm.out; omega))
            have Hst := Aside0.mk (add_step (l := M1) hkn' Hr5.out.2.1 Hsm.out.1)
            have Hk := Aside0.mk hkn
            obtain ⟨x, hx⟩ : ∃ x, L1.getD k 0 = x := ⟨_, rfl⟩
            rw [hx] at e5 HP Hst
            clear hkn hk hkn' hm20 hx
            replace k0 := eq_true k0
            replace k1 := eq_true k1
            go_wp2_with fail
            refine HP.out.mono ?_
            rintro e w8 ⟨v8, rfl, r1, r2⟩
            rw [Hst.out] at r1
            have HV8 := Aside0.mk r1
            have HB8 := Aside0.mk (bel_trans HBk.out r2)
            clear r1 r2
            go_wp2_with fail
            go_roundw
            case rel => exact ⟨k + 1, by go_num, Hk.out, HV8, HB8⟩
            case measure => have := Hk.out; simp [intOf]; omega
          · have hnb : decide ((k : Int) < (m5 : Int)) = false := decide_eq_false (by omega)
            have hnc : decide (k < m5) = false := decide_eq_false hkn
            obtain rfl : k = m5 := by omega
            clear hkn hk
            rw [List.take_of_length_le (by rw [Hr5.out.2.2]; exact Nat.le_refl _), Hq.out.1] at HV
            have HBc1 := Aside0.mk (bel_trans HBc.out HBk.out)
            have HV2d := Aside0.mk (HV2c.out.below HBk.out)
            have HU1 := Aside0.mk (HBr.out)
            go_wp2_with fail
            go_loopw [10, 15] (fun V K wx => ∃ k : Nat, K = .int .i64 (k : Int) ∧ k ≤ m6 ∧ Aside0 (RdV wx V (Sl.insL M2 (L2.take k))) ∧ Aside0 (Below wr.heap.size wr wx)) (fun _ K _ => m6 - (intOf K).toNat)
            case atStart => exact ⟨0, rfl, Nat.zero_le _, HV2d, ⟨Below.refl _ _⟩⟩
            case round =>
              obtain ⟨k, rfl, hk, HW, HBk2⟩ := hrel
              by_cases hkn : k < m6
              · have hnb : decide ((k : Int) < (m6 : Int)) = true := decide_eq_true (by omega)
                have hnc : decide (k < m6) = true := decide_eq_true hkn
                have hkn' : k < L2.length := by rw [Hr6.out.2.2]; exact hkn
                have hm20 : m6 ≤ 20 := by have := Hr6.out.2.1.len; have := Hsm.out; have := Hr6.out.2.2; omega
                obtain ⟨ad6, rfl, e6⟩ := (Hr6.out.1.below (bel_trans HBk.out HBk2.out)).at_ (k : Int) (by omega) (by omega)
                have e6 : wr.cell? (ad6.add k) = some (.int .i64 (L2.getD k 0)) := by simpa [rd] using e6
                have k0 : 0 ≤ (k : Int) := by omega
                have k1 : (k : Int) < (m6 : Int) := by omega
                have k2 : (k : Int) ≤ 1000000 := by omega
                have HP := Aside0.mk (put_any _ _ (L2.getD k 0) wr HW.out (HS2.out.insL (fun x hx => Hr6.out.2.1.2 x (List.mem_of_mem_take hx))).1 (by have := (HS2.out.insL (fun x hx => Hr6.out.2.1.2 x (List.mem_of_mem_take hx)) : Sm nT (Sl.insL M2 (L2.take k))).len; have := Hsm.out; omega))
                have Hst := Aside0.mk (add_step (l := M2) hkn' Hr6.out.2.1 Hsm.out.1)
                have Hk := Aside0.mk hkn
                obtain ⟨x, hx⟩ : ∃ x, L2.getD k 0 = x := ⟨_, rfl⟩
                rw [hx] at e6 HP Hst
                clear hkn hk hkn' hm20 hx
                replace k0 := eq_true k0
                replace k1 := eq_true k1
                go_wp2_with fail
                refine HP.out.mono ?_
                rintro e w8 ⟨v8, rfl, r1, r2⟩
                rw [Hst.out] at r1
                have HV8 := Aside0.mk r1
                have HB8 := Aside0.mk (bel_trans HBk2.out r2)
                clear r1 r2
                go_wp2_with fail
                go_roundw
                case rel => exact ⟨k + 1, by go_num, Hk.out, HV8, HB8⟩
                case measure => have := Hk.out; simp [intOf]; omega
              · have hnb : decide ((k : Int) < (m6 : Int)) = false := decide_eq_false (by omega)
                have hnc : decide (k < m6) = false := decide_eq_false hkn
                obtain rfl : k = m6 := by omega
                clear hkn hk
                rw [List.take_of_length_le (by rw [Hr6.out.2.2]; exact Nat.le_refl _), Hq.out.2] at HW
                have HVe := Aside0.mk (HV.out.below HBk2.out)
                have HBe := Aside0.mk (bel_trans HBr.out (bel_trans HBc1.out HBk2.out))
                go_wp2_with fail
                go_roundw
                case rel => exact ⟨i + 1, by go_num, Hin.out.2.2, HVe, HW, HBe⟩
                case measure => have := Hin.out.2.2; simp [intOf]; omega
    · have hnb : decide ((i : Int) < (n3 : Int)) = false := decide_eq_false (by omega)
      have hnc : decide (i < n3) = false := decide_eq_false hin
      obtain rfl : i = n3 := by omega
      have ht : os.take i = os := List.take_of_length_le (by rw [Hn.out.2.2]; exact Nat.le_refl _)
      rw [ht] at HV1 HV2
      have hUU := HUr.out
      rw [Hn.out.2.2] at hUU
      have HUU := Aside0.mk hUU
      have HN := Aside0.mk (next_any p T E f _ os wr HGr.out hUU HTr.out Hok.out.2.2 Hok.out.2.1 (by have := H3.out; have := Hn.out.2.2; omega))
      clear hin hi ht hUU
      go_wp2_with fail
      refine HN.out.mono ?_
      rintro e w5 ⟨v5, rfl, r1, r2⟩
      have HV1' := Aside0.mk (HV1.out.below r2)
      have HV2' := Aside0.mk (HV2.out.below r2)
      have HB5 := Aside0.mk r2
      have H5 := Aside0.mk (OwI.toV r1)
      clear r1 r2
      go_wp2_with fail
      refine (same_any _ _ _ _ w5 H5.out HV1'.out).mono ?_
      rintro e w6 ⟨rfl, r2⟩
      have d5 : decide (nextG E f os = nextG E f os) = true := decide_eq_true rfl
      rw [d5]
      have HB6 := Aside0.mk (bel_trans HB5.out r2)
      have HV2'' := Aside0.mk (HV2'.out.below r2)
      clear r2 d5
      have HR2 := Aside0.mk (reach_any p T E _ os w6 (HGr.out.below HB6.out) (HUU.out.below HB6.out) (HTr.out.below HB6.out) (by rw [Hn.out.1]; exact HR.out) Hok.out.1 Hok.out.2.1 (by have := H3.out; have := Hn.out.2.2; rw [Hn.out.1, Hn.out.2.1]; have := Hsm.out; exact ⟨by omega, by omega, by omega⟩))
      go_wp2_with fail
      refine HR2.out.mono ?_
      rintro e w7 ⟨v7, rfl, r1, r2⟩
      rw [Hn.out.1] at r1
      have H7 := Aside0.mk (OwI.toV r1)
      have HV2t := Aside0.mk (HV2''.out.below r2)
      have HB7 := Aside0.mk (bel_trans HB4.out (bel_trans HBr.out (bel_trans HB6.out r2)))
      clear r1 r2
      go_wp2_with fail
      refine (same_any _ _ _ _ w7 H7.out HV2t.out).mono ?_
      rintro e w8 ⟨rfl, r2⟩
      have d5 : decide (reachG nT E os = reachG nT E os) = true := decide_eq_true rfl
      rw [d5]
      have HB8 := Aside0.mk (bel_trans HB7.out r2)
      clear r2
      go_wp2_with fail
      go_ret
      exact ⟨rfl, HB8.out⟩
end Go.Proofs.YtfgonclaiphoeaaGreatDoor.Rf
