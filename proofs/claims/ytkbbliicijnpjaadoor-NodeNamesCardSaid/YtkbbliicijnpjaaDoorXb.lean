/- Xa, Xb -/
import Derived.Test.YtkbbliicijnpjaaDoorVh
/- Xa: nodes: Name, for all kinds. -/
section
namespace Go.Proofs.YtkbbliicijnpjaaDoor.Tx
open Go.RowKit Go.Proofs.YtkbbliicijnpjaaDoorW.PrintWords Go.Proofs.YtkbbliicijnpjaaDoorW.PrintLast Go.Proofs.YtkbbliicijnpjaaDoorW.PrintMore
open Go.Proofs.YtkbbliicijnpjaaDoor.Base Go.Proofs.YtkbbliicijnpjaaDoor.Map Go.Proofs.YtkbbliicijnpjaaDoor.Ca Go.Proofs.YtkbbliicijnpjaaDoor.Qu Go.Proofs.YtkbbliicijnpjaaDoor.In Go.Proofs.YtkbbliicijnpjaaDoor.Kx Go.Maps Go.Proofs.YtkbbliicijnpjaaDoor.PNodeIds
set_option linter.unusedVariables false

def siteOf (ol : List (List Int)) (a : Int) : Int := (tupleOf ol a).headD 0
def placeOf (ol : List (List Int)) (a : Int) : List Int := (tupleOf ol a).tail
def nameW (cl ol : List (List Int)) (k a b c : Int) : List Wd :=
  if k = 0 then [.txt ⟨#[118, 97, 114]⟩, .num b, .txt (ctxTx cl a), .num c]
  else if k = 1 then [.txt ⟨#[114, 101, 116]⟩, .num b, .txt (ctxTx cl a)]
  else if k = 2 then [.txt ⟨#[101, 120, 99]⟩, .num b, .txt (ctxTx cl a)]
  else if k = 3 then [.txt ⟨#[102, 105, 101, 108, 100]⟩, .num (siteOf ol a), .txt (textS (placeOf ol a)), .num b]
  else [.txt ⟨#[115, 116, 97, 116, 105, 99]⟩, .num a]
/-- a node's name -/
def nameS (cl ol : List (List Int)) (k a b c : Int) : ByteArray := if okN k a b c then wordsS (nameW cl ol k a b c) else ⟨#[]⟩
set_option maxHeartbeats 2000000 in
set_option maxRecDepth 100000 in
theorem object_ap (p : Nat) (F : Nat → Prop) (sl : List ByteArray) (tl : List (List Int)) (w : World) (h : TabAt w F p sl tl) (id : Int) (x : Int) (xs : List Int) (hid : tupleOf tl id = x :: xs) :
    Calls Tryd.prog 58 #[.agg #[.pointer (some ⟨p, 0, none⟩)], .int .i64 id] w fun e w' => ∃ u, e = .returned (.tuple #[.agg #[.int .i64 x, u], .bool true]) ∧ (∀ W, Chg (fun k => k < w.heap.size) w' W → RdV W u xs) ∧ Below w.heap.size w w' := by
  have hb : Below w.heap.size w ((w.alloc (.cells #[.pointer (some ⟨p, 0, none⟩)] 56)).alloc (.cells #[.int .i64 0, .slice none 0 0] 36)) := below_alloc (below_alloc (Below.refl _ _) _) _
  have ht := h.below hb
  have Hid := Aside0.mk hid
  clear hid
  go_enter Tryd.func58, Tryd.ntmps58
  go_wp2_with fail
  refine (tuple_tab p F sl tl _ ht id).mono ?_
  rintro e w2 ⟨v, rfl, r1, r2⟩
  rw [Hid.out] at r1
  have hV := r1.toV
  obtain ⟨A, c, rfl, hc, hr⟩ := r1.rd
  obtain ⟨ad, hA, hx0⟩ := hr.at_ 0 (by omega) (by simp)
  subst hA
  rw [show (0 : Int).toNat = 0 from rfl, Go.Proofs.YtkbbliicijnpjaaDoor.Kx.add_nil] at hx0
  have hx1 : w2.cell? ad = some (.int .i64 x) := hx0
  obtain ⟨A', c', hrun, hread⟩ := cut_from (some ad) c (x :: xs) 1 (by omega) (by simp; omega) hc
  have hst0 := st_own r1 (F := fun k => k < w.heap.size + 2) (fun k hk => by simp; omega)
  have hR := Aside0.mk (show ∀ W, Chg (fun k => k < w.heap.size + 2) w2 W → RdV W (.slice A' ((x :: xs).drop (1 : Int).toNat).length c') ((x :: xs).drop (1 : Int).toNat) from fun W hC => by
    obtain ⟨A2, c2, he, _, hr2⟩ := hst0 W hC
    injection he with e1 _ _
    subst e1
    exact hread W hr2)
  clear hst0
  have hd : (x :: xs).drop (1 : Int).toNat = xs := rfl
  rw [hd] at hrun hR
  obtain ⟨n, hn⟩ : ∃ n, (x :: xs).length = n := ⟨_, rfl⟩
  have hn0 : (0 : Int) < (n : Int) := by rw [← hn]; simp
  have hn1 : 0 < n := by rw [← hn]; simp
  rw [hn] at hrun ⊢
  have hk : w2.cell? ⟨w.heap.size + 1, 0, none⟩ = some (.int .i64 0) := bel_cell r2 (by simp)
  have hk1 : w2.cell? ⟨w.heap.size + 1, 1, none⟩ = some (.slice none 0 0) := bel_cell r2 (by simp)
  have hz := fr_bel (b := w.heap.size + 1) (n := 0) r2 (by simpa using heap_alloc_new (w.alloc (.cells #[.pointer (some ⟨p, 0, none⟩)] 56)) (.cells #[.int .i64 0, .slice none 0 0] 36))
  have hz1 := fr_bel (b := w.heap.size + 1) (n := 1) r2 (by simpa using heap_alloc_new (w.alloc (.cells #[.pointer (some ⟨p, 0, none⟩)] 56)) (.cells #[.int .i64 0, .slice none 0 0] 36))
  have hB := below_then hb (by simp; omega) r2
  have hlt : w.heap.size + 1 < w2.heap.size := Nat.lt_of_lt_of_le (by simp) r2.size
  clear r1 r2 ht hread hV hc hx0 hr hd hn
  go_wp2_with fail
  go_region
  all_goals
    go_wp2
    (try simp only [Exit.inBlock, Exit.then])
    refine bodyPost_ret (v := .tuple #[.agg #[.int .i64 x, .slice A' xs.length c'], .bool true]) ?_ rfl ⟨_, rfl, fun W2 hW2 => hR.out _ ((((Chg.setCell (F := fun k => k < w.heap.size + 2) w2 (p := ⟨w.heap.size + 1, 0, none⟩) (by simp) _).then_ (Chg.setCell (F := fun k => k < w.heap.size + 2) _ (p := ⟨w.heap.size + 1, 1, none⟩) (by simp) _) (fun k hk => .inl hk)).andBelow (below_drew (Below.refl _ _))).then_ hW2 (fun k hk => .inl (Nat.lt_of_lt_of_le hk (by omega)))), ?_⟩
    · rw [Go.results_cell_tmp rfl]
      go_simp
    · exact below_drew (below_setCell (below_setCell hB (p := ⟨w.heap.size + 1, 0, none⟩) (by simp) _) (p := ⟨w.heap.size + 1, 1, none⟩) (by simp) _)
theorem object_any (p : Nat) (F : Nat → Prop) (sl : List ByteArray) (ol : List (List Int)) (w : World) (h : TabAt w F p sl ol) (id : Int) :
    Calls Tryd.prog 58 #[.agg #[.pointer (some ⟨p, 0, none⟩)], .int .i64 id] w fun e w' => ∃ u b, e = .returned (.tuple #[.agg #[.int .i64 (siteOf ol id), u], .bool b]) ∧ (∀ W, Chg (fun k => k < w.heap.size) w' W → RdV W u (placeOf ol id)) ∧ Below w.heap.size w w' := by
  cases hid : tupleOf ol id with
  | nil =>
    unfold siteOf placeOf
    rw [hid]
    exact (object_none p F sl ol w h id hid).mono fun e w' ⟨h1, h2⟩ => ⟨_, _, h1, fun W _ => RdV.nil _, h2⟩
  | cons x xs =>
    unfold siteOf placeOf
    rw [hid]
    exact (object_ap p F sl ol w h id x xs hid).mono fun e w' ⟨u, h1, h2, h3⟩ => ⟨_, _, h1, h2, h3⟩
theorem text_size (l : List Int) (h : tOk l) : (textS l).size ≤ 1000 := by
  have h9 : textS l = ctxTx [l] 0 := by unfold ctxTx tupleOf; rw [if_pos (by simp)]; rfl
  rw [h9]
  exact ctxTx_size _ _ (fun t ht => by rw [List.mem_singleton] at ht; rw [ht]; exact h)
theorem placeOf_ok (ol : List (List Int)) (a : Int) (h : ∀ t ∈ ol, tOk t) : tOk (placeOf ol a) ∧ (Lit.int .i64 (siteOf ol a)).wf = true := by
  obtain ⟨h1, h2⟩ := tupleOf_mem ol a h
  unfold placeOf siteOf
  cases ht : tupleOf ol a with
  | nil => exact ⟨⟨by simp, fun x hx => by simp at hx⟩, by decide⟩
  | cons x xs =>
    rw [ht] at h1 h2
    exact ⟨⟨by simp at h1; simp; omega, fun y hy => h2 y (by simp at hy; simp [hy])⟩, h2 x (by simp)⟩

theorem field_ok {st b : Int} {tq : ByteArray} (h1 : (Lit.int .i64 st).wf = true) (h2 : tq.size ≤ 1000) (h3 : (Lit.int .i64 b).wf = true) : ∀ y ∈ [Wd.txt ⟨#[102, 105, 101, 108, 100]⟩, .num st, .txt tq, .num b], y.ok 1000 := by
  intro y hy
  simp only [List.mem_cons, List.not_mem_nil, or_false] at hy
  rcases hy with rfl | rfl | rfl | rfl
  · show (⟨#[102, 105, 101, 108, 100]⟩ : ByteArray).size ≤ 1000; decide
  · exact h1
  · exact h2
  · exact h3
set_option maxHeartbeats 8000000 in
set_option maxRecDepth 100000 in
theorem name_any (w0 w : World) (q p1 p2 : Nat) (cl ol : List (List Int)) (bs : List (Nat × Obj)) (x : Nat) (i1 k0 k1 k2 k3 k4 : Value) (h : CT w0 w q p1 p2 cl ol bs) (hx : (x, .cells #[.pointer (some ⟨q, 0, none⟩), i1, k0, k1, k2, k3, k4] 90 (0, 0)) ∈ bs) (hP : P10 w) (hcl : ∀ t ∈ cl, tOk t) (hol : ∀ t ∈ ol, tOk t) (k a b c : Int) (ha : (Lit.int .i64 a).wf = true) (hb : (Lit.int .i64 b).wf = true) (hc : (Lit.int .i64 c).wf = true) :
    Calls Tryd.prog 29 #[.pointer (some ⟨x, 0, none⟩), .agg #[.int .i64 k, .int .i64 a, .int .i64 b, .int .i64 c]] w fun e w' => e = .returned (.string (nameS cl ol k a b c)) ∧ Below w.heap.size w w' := by
  obtain ⟨tn, htn⟩ : ∃ t, nameS cl ol k a b c = t := ⟨_, rfl⟩
  rw [htn]
  have Htn := Aside0.mk htn
  have hxb := h.in_ hx
  have H := Aside0.mk h
  have HX := Aside0.mk hxb
  have HP := Aside0.mk hP
  have HC := Aside0.mk hcl
  have HO := Aside0.mk hol
  have HW := Aside0.mk (And.intro ha (And.intro hb hc))
  obtain ⟨r1, r2, r3, r4, r5, hpl⟩ : ∃ r1 r2 r3 r4 r5, pl k a b c = (r1, r2, r3, r4, r5) := ⟨_, _, _, _, _, rfl⟩
  have Hpl := Aside0.mk hpl
  obtain ⟨g, hg⟩ : ∃ g, w.heap.size = g := ⟨_, rfl⟩
  have hwb : ∀ wb, w.alloc (.cells #[.int .i64 k, .int .i64 a, .int .i64 b, .int .i64 c] 46) = wb → wb.heap[g]? = some (.cells #[.int .i64 k, .int .i64 a, .int .i64 b, .int .i64 c] 46 (0, 0)) ∧ Below w.heap.size w wb := by
    rintro wb rfl
    subst hg
    exact ⟨heap_alloc_new _ _, below_alloc (Below.refl _ _) _⟩
  clear htn ha hb hc hcl hol hP hxb hx h hpl
  go_enter Tryd.func29, Tryd.ntmps29
  go_wp2_with fail
  have Hg := Aside0.mk hg
  clear hg
  generalize hqw : w.alloc (.cells #[.int .i64 k, .int .i64 a, .int .i64 b, .int .i64 c] 46) = wb
  obtain ⟨B0, hB⟩ := hwb wb hqw
  clear hwb hqw
  refine (plain_any _ _ _ _ _).mono ?_
  rintro e w1 ⟨rfl, h1⟩
  have B1 := blk_below' B0 h1
  have HB := Aside0.mk (below_then hB hB.size h1)
  have HBk := Aside0.mk B1
  have d0 := blk_cell B1 0
  have d1 := blk_cell B1 1
  have d2 := blk_cell B1 2
  have d3 := blk_cell B1 3
  have f0 := blk_frozen B1 0
  have f1 := blk_frozen B1 1
  have f2 := blk_frozen B1 2
  have f3 := blk_frozen B1 3
  rw [Hpl.out]
  clear B0 hB h1 B1
  go_upto_region 2 with (fail)
  have P0 := blk_put (blk_put (blk_put (blk_put HBk.out 0 (.int .i64 r1) rfl) 1 (.int .i64 r2) rfl) 2 (.int .i64 r3) rfl) 3 (.int .i64 r4) rfl
  have hge : w.heap.size ≤ g := Nat.le_of_eq Hg.out
  have PB := below_setCell (below_setCell (below_setCell (below_setCell HB.out (p := ⟨g, 0, none⟩) hge (.int .i64 r1)) (p := ⟨g, 1, none⟩) hge (.int .i64 r2)) (p := ⟨g, 2, none⟩) hge (.int .i64 r3)) (p := ⟨g, 3, none⟩) hge (.int .i64 r4)
  generalize (((w1.setCell ⟨g, 0, none⟩ (.int .i64 r1)).setCell ⟨g, 1, none⟩ (.int .i64 r2)).setCell ⟨g, 2, none⟩ (.int .i64 r3)).setCell ⟨g, 3, none⟩ (.int .i64 r4) = W at *
  clear d0 d1 d2 d3 f0 f1 f2 f3 hge HB HBk
  have HB := Aside0.mk PB
  have HT := Aside0.mk (H.out.below PB)
  have HPW := Aside0.mk (HP.out.below PB)
  have HXW := Aside0.mk (blk_below' HX.out PB)
  have HQW := Aside0.mk (HT.out.blk)
  obtain ⟨⟨F, hF⟩, ⟨G, hG⟩⟩ := HT.out.tabs
  have HF := Aside0.mk hF
  have HGt := Aside0.mk hG
  have HG0 : Aside0 (W.heap[g]? = some (.cells #[.int .i64 r1, .int .i64 r2, .int .i64 r3, .int .i64 r4] 46 (0, 0))) := ⟨P0⟩
  have x0 := blk_cell HXW.out 0
  have q0 := blk_cell HQW.out 0
  have g1 := blk_cell HG0.out 1
  clear P0 PB hF hG
  obtain ⟨tc, htc⟩ : ∃ t, ctxTx cl r2 = t := ⟨_, rfl⟩
  have Htc := Aside0.mk htc
  clear htc
  have HB1 := Below.refl W.heap.size W
  go_region_held3 (fun w' => w'.cell? ⟨x, 0, none⟩ = some (.pointer (some ⟨q, 0, none⟩)) ∧ w'.cell? ⟨q, 0, none⟩ = some (.pointer (some ⟨p1, 0, none⟩)) ∧ w'.cell? ⟨g, 1, none⟩ = some (.int .i64 r2) ∧ Below W.heap.size W w') (first | (exact ⟨bel_cell HB1 x0, bel_cell HB1 q0, bel_cell HB1 g1, HB1⟩) | go_keep)
    (first
      | (go_at_call 56; (with_reducible refine (context_any p1 F [] cl _ (HF.out.below (by simp [*])) r2).mono ?_); rintro e w5 ⟨v5, rfl, H5, B5⟩; have R5 := Aside0.mk (OwI.toV H5); have HB2 := bel_trans (wb := W) (by simp [*]) B5; clear HB1 H5 B5; have HB1 := HB2; clear HB2)
      | (go_at_call 20; (with_reducible refine (ctxText_any cl r2 R5.out (HPW.out.below (by simp [*])) HC.out).mono ?_); rintro e w6 ⟨rfl, B6⟩; rw [Htc.out]; have HB2 := bel_trans HB1 B6; clear HB1 B6; have HB1 := HB2; clear HB2)
      | (fail))
  have HB6 := Aside0.mk HB1
  have HG6 := Aside0.mk (blk_below' HG0.out HB1)
  have HX6 := Aside0.mk (blk_below' HXW.out HB1)
  have HQ6 := Aside0.mk (blk_below' HQW.out HB1)
  have HGt6 := Aside0.mk (HGt.out.below HB1)
  have HP6 := Aside0.mk (HPW.out.below HB1)
  have ht : tc.size ≤ 1000 := by rw [← Htc.out]; exact ctxTx_size cl r2 HC.out
  have Ht := Aside0.mk ht
  have hsz := (below_then HB.out HB.out.size HB1).size
  have HBw := Aside0.mk (below_then HB.out HB.out.size HB1)
  clear x0 q0 g1 HB1 ht hsz HT HXW HQW HF HGt HB
  have g0 := blk_cell HG6.out 0
  have g1 := blk_cell HG6.out 1
  have g2 := blk_cell HG6.out 2
  have g3 := blk_cell HG6.out 3
  cases r5 with
  | false =>
    have e1 : nameS cl ol k a b c = ⟨#[]⟩ := by unfold nameS okN; rw [Hpl.out]; rfl
    rw [Htn.out] at e1
    subst e1
    go_wp2_with fail
    go_ret
    exact ⟨rfl, HBw.out⟩
  | true =>
    have e1 : tn = wordsS (nameW cl ol k a b c) := by rw [← Htn.out]; unfold nameS okN; rw [Hpl.out]; rfl
    have E1 := Aside0.mk e1
    have hpl := Hpl.out
    unfold pl at hpl
    clear e1
    by_cases h4 : k = 4
    · subst h4
      simp only [if_pos, Prod.mk.injEq] at hpl
      obtain ⟨rfl, rfl, rfl, rfl, _⟩ := hpl
      go_wp2_with fail
      refine (words_new [.txt ⟨#[115, 116, 97, 116, 105, 99]⟩, .num a] w6 HP6.out 1000 ?_ (by decide) (by decide) (by simp) (by simp)).mono ?_
      · intro y hy
        simp only [List.mem_cons, List.not_mem_nil, or_false] at hy
        rcases hy with rfl | rfl
        · show (⟨#[115, 116, 97, 116, 105, 99]⟩ : ByteArray).size ≤ 1000; decide
        · exact HW.out.1
      rintro e w7 ⟨rfl, h7⟩
      go_wp2
      go_ret
      exact ⟨by rw [E1.out]; rfl, below_then HBw.out HBw.out.size h7⟩
    rw [if_neg h4] at hpl
    by_cases h1 : k = 1
    · subst h1
      simp only [true_or, if_pos, Prod.mk.injEq] at hpl
      obtain ⟨rfl, rfl, rfl, rfl, _⟩ := hpl
      clear h4
      go_wp2_with fail
      refine (words_new [.txt ⟨#[114, 101, 116]⟩, .num b, .txt tc] w6 HP6.out 1000 ?_ (by decide) (by decide) (by simp) (by simp)).mono ?_
      · intro y hy
        simp only [List.mem_cons, List.not_mem_nil, or_false] at hy
        rcases hy with rfl | rfl | rfl
        · show (⟨#[114, 101, 116]⟩ : ByteArray).size ≤ 1000; decide
        · exact HW.out.2.1
        · exact Ht.out
      rintro e w7 ⟨rfl, h7⟩
      go_wp2
      go_ret
      exact ⟨by rw [E1.out, ← Htc.out]; rfl, below_then HBw.out HBw.out.size h7⟩
    by_cases h2 : k = 2
    · subst h2
      simp only [true_or, or_true, if_pos, Prod.mk.injEq] at hpl
      obtain ⟨rfl, rfl, rfl, rfl, _⟩ := hpl
      clear h4 h1
      go_wp2_with fail
      refine (words_new [.txt ⟨#[101, 120, 99]⟩, .num b, .txt tc] w6 HP6.out 1000 ?_ (by decide) (by decide) (by simp) (by simp)).mono ?_
      · intro y hy
        simp only [List.mem_cons, List.not_mem_nil, or_false] at hy
        rcases hy with rfl | rfl | rfl
        · show (⟨#[101, 120, 99]⟩ : ByteArray).size ≤ 1000; decide
        · exact HW.out.2.1
        · exact Ht.out
      rintro e w7 ⟨rfl, h7⟩
      go_wp2
      go_ret
      exact ⟨by rw [E1.out, ← Htc.out]; rfl, below_then HBw.out HBw.out.size h7⟩
    by_cases h0 : k = 0
    · subst h0
      rw [if_neg (by decide), if_pos rfl] at hpl
      simp only [Prod.mk.injEq] at hpl
      obtain ⟨rfl, rfl, rfl, rfl, _⟩ := hpl
      clear h4 h1 h2
      go_wp2_with fail
      refine (words_new [.txt ⟨#[118, 97, 114]⟩, .num b, .txt tc, .num c] w6 HP6.out 1000 ?_ (by decide) (by decide) (by simp) (by simp)).mono ?_
      · intro y hy
        simp only [List.mem_cons, List.not_mem_nil, or_false] at hy
        rcases hy with rfl | rfl | rfl | rfl
        · show (⟨#[118, 97, 114]⟩ : ByteArray).size ≤ 1000; decide
        · exact HW.out.2.1
        · exact Ht.out
        · exact HW.out.2.2
      rintro e w7 ⟨rfl, h7⟩
      go_wp2
      go_ret
      exact ⟨by rw [E1.out, ← Htc.out]; rfl, below_then HBw.out HBw.out.size h7⟩
    by_cases h3 : k = 3
    · subst h3
      rw [if_pos (by decide)] at hpl
      simp only [Prod.mk.injEq] at hpl
      obtain ⟨rfl, rfl, rfl, rfl, _⟩ := hpl
      clear h4 h1 h2 h0
      have x0 := blk_cell HX6.out 0
      have q1 := blk_cell HQ6.out 1
      obtain ⟨hok3, hsw⟩ := placeOf_ok ol a HO.out
      obtain ⟨st, hst⟩ : ∃ st, siteOf ol a = st := ⟨_, rfl⟩
      have Hst := Aside0.mk hst
      obtain ⟨tq, htq⟩ : ∃ t, textS (placeOf ol a) = t := ⟨_, rfl⟩
      have Htq := Aside0.mk htq
      have Hok3 := Aside0.mk hok3
      have Hok4 := Aside0.mk hok3.2
      have Hok5 : Aside0 ((placeOf ol a).length ≤ 100) := ⟨Nat.le_trans hok3.1 (by decide)⟩
      have Hsw := Aside0.mk hsw
      clear hok3 hsw hst htq
      have HB1 := Below.refl w6.heap.size w6
      go_wp2_with fail
      go_region_held3 (fun w' => w'.cell? ⟨x, 0, none⟩ = some (.pointer (some ⟨q, 0, none⟩)) ∧ w'.cell? ⟨q, 1, none⟩ = some (.pointer (some ⟨p2, 0, none⟩)) ∧ w'.cell? ⟨g, 1, none⟩ = some (.int .i64 a) ∧ Below w6.heap.size w6 w') (first | (exact ⟨bel_cell HB1 x0, bel_cell HB1 q1, bel_cell HB1 g1, HB1⟩) | (refine ⟨bel_cell (wb := w6) ?_ x0, bel_cell (wb := w6) ?_ q1, bel_cell (wb := w6) ?_ g1, ?_⟩ <;> simp [*]))
        (first
          | (go_at_call 58; (with_reducible refine (object_any p2 G [] ol _ (HGt6.out.below (by simp [*])) a).mono ?_); rintro e w7 ⟨u7, b7, rfl, H7, B7⟩; rw [Hst.out]; have R7 := Aside0.mk H7; obtain ⟨A7, n7, c7, rfl⟩ : ∃ A n c, u7 = .slice A n c := (by obtain ⟨A, c, h, _⟩ := H7 _ (Chg.refl _ _); exact ⟨_, _, _, h⟩); clear H7; (first | (have zb : w7.heap[w6.heap.size]? = some (.cells #[.int .i64 0, .slice none 0 0] 36 (0, 0)) := blk_below' (heap_alloc_new w6.drew _) B7) | (have zb : w7.heap[w6.heap.size]? = some (.cells #[.int .i64 0, .slice none 0 0] 36 (0, 0)) := blk_below' (below_drew (Below.refl _ _) |> blk_below' (heap_alloc_new w6 _)) B7) | skip); (first | (have z0 := blk_cell zb 0; have z1 := blk_cell zb 1; have zf0 := blk_frozen zb 0; have zf1 := blk_frozen zb 1; have HZ := Aside0.mk zb; clear zb) | skip); have HB2 := bel_trans (wb := w6) (by simp [*]) B7; clear HB1 B7; have HB1 := HB2; clear HB2)
          | (fail))
      · have hal := below_alloc (Below.refl w7.heap.size w7) (.cells #[.int .i64 st, .slice A7 n7 c7] 36)
        have HB7 := Aside0.mk (bel_trans HB1 hal)
        have HZ := Aside0.mk (heap_alloc_new w7 (.cells #[.int .i64 st, .slice A7 n7 c7] 36))
        have R8 := Aside0.mk (R7.out _ (Chg.of_below hal _))
        clear hal HB1 R7
        have HP8 := Aside0.mk (HP6.out.below HB7.out)
        have HG8 := Aside0.mk (blk_below' HG6.out HB7.out)
        have HBz := Aside0.mk (below_then HBw.out HBw.out.size HB7.out)
        clear HB7
        generalize w7.alloc (.cells #[.int .i64 st, .slice A7 n7 c7] 36) = w8 at *
        generalize w7.heap.size = g7 at *
        clear x0 q1 g0 g1 g2 g3
        have y0 := blk_cell HZ.out 0
        have y1 := blk_cell HZ.out 1
        have g2 := blk_cell HG8.out 2
        have HB1 := Below.refl w8.heap.size w8
        go_wp2_with fail
        go_region_held3 (fun w' => w'.cell? ⟨g7, 0, none⟩ = some (.int .i64 st) ∧ w'.cell? ⟨g7, 1, none⟩ = some (.slice A7 n7 c7) ∧ w'.cell? ⟨g, 2, none⟩ = some (.int .i64 b) ∧ Below w8.heap.size w8 w') (first | (exact ⟨bel_cell HB1 y0, bel_cell HB1 y1, bel_cell HB1 g2, HB1⟩) | (refine ⟨bel_cell (wb := w8) ?_ y0, bel_cell (wb := w8) ?_ y1, bel_cell (wb := w8) ?_ g2, ?_⟩ <;> simp [*]))
          (first
            | (go_at_call 20; (with_reducible refine (text_any _ _ _ (R8.out.below (below_drew (Below.refl _ _))) (HP8.out.below (below_drew (Below.refl _ _))) Hok4.out Hok5.out).mono ?_); rintro e w9 ⟨rfl, B9⟩; rw [Htq.out]; have HB2 := bel_trans (wb := w8) (below_drew (Below.refl _ _)) B9; clear HB1 B9; have HB1 := HB2; clear HB2; have HQ9 := Aside0.mk HB1)
            | (go_at_call 57; (refine (words_new [.txt ⟨#[102, 105, 101, 108, 100]⟩, .num st, .txt tq, .num b] _ (HP8.out.below HQ9.out) 1000 ?_ (by decide) (by decide) (by simp) (by simp)).mono ?_); (exact fun y hy => field_ok (by rw [← Hst.out]; exact Hsw.out) (by rw [← Htq.out]; exact text_size _ Hok3.out) HW.out.2.1 y hy); rintro e w10 ⟨rfl, B10⟩; have HB2 := bel_trans HQ9.out B10; clear HB1 B10; have HB1 := HB2; clear HB2)
            | (fail))
        all_goals go_wp2_with fail
        go_ret
        exact ⟨by rw [E1.out, ← Hst.out, ← Htq.out]; rfl, below_then HBz.out HBz.out.size HB1⟩
      · have hge : w6.heap.size ≤ w6.heap.size := Nat.le_refl _
        have P0 := blk_put (blk_put HZ.out 0 (.int .i64 st) rfl) 1 (.slice A7 n7 c7) rfl
        have HB7 := Aside0.mk (below_setCell (below_setCell HB1 (p := ⟨w6.heap.size, 0, none⟩) hge (.int .i64 st)) (p := ⟨w6.heap.size, 1, none⟩) hge (.slice A7 n7 c7))
        have R8 := Aside0.mk (R7.out _ ((Chg.setCell w7 (p := ⟨w6.heap.size, 0, none⟩) (by simp) (.int .i64 st)).then_ (Chg.setCell _ (p := ⟨w6.heap.size, 1, none⟩) (by simp) (.slice A7 n7 c7)) (fun k hk => .inl hk)))
        clear HB1 R7 HZ z0 z1 zf0 zf1
        have HZ := Aside0.mk P0
        clear P0 hge
        have HP8 := Aside0.mk (HP6.out.below HB7.out)
        have HG8 := Aside0.mk (blk_below' HG6.out HB7.out)
        have HBz := Aside0.mk (below_then HBw.out HBw.out.size HB7.out)
        clear HB7
        generalize (w7.setCell ⟨w6.heap.size, 0, none⟩ (.int .i64 st)).setCell ⟨w6.heap.size, 1, none⟩ (.slice A7 n7 c7) = w8 at *
        generalize w6.heap.size = g7 at *
        clear x0 q1 g0 g1 g2 g3
        have y0 := blk_cell HZ.out 0
        have y1 := blk_cell HZ.out 1
        have g2 := blk_cell HG8.out 2
        have HB1 := Below.refl w8.heap.size w8
        go_wp2_with fail
        go_region_held3 (fun w' => w'.cell? ⟨g7, 0, none⟩ = some (.int .i64 st) ∧ w'.cell? ⟨g7, 1, none⟩ = some (.slice A7 n7 c7) ∧ w'.cell? ⟨g, 2, none⟩ = some (.int .i64 b) ∧ Below w8.heap.size w8 w') (first | (exact ⟨bel_cell HB1 y0, bel_cell HB1 y1, bel_cell HB1 g2, HB1⟩) | (refine ⟨bel_cell (wb := w8) ?_ y0, bel_cell (wb := w8) ?_ y1, bel_cell (wb := w8) ?_ g2, ?_⟩ <;> simp [*]))
          (first
            | (go_at_call 20; (with_reducible refine (text_any _ _ _ (R8.out.below (below_drew (Below.refl _ _))) (HP8.out.below (below_drew (Below.refl _ _))) Hok4.out Hok5.out).mono ?_); rintro e w9 ⟨rfl, B9⟩; rw [Htq.out]; have HB2 := bel_trans (wb := w8) (below_drew (Below.refl _ _)) B9; clear HB1 B9; have HB1 := HB2; clear HB2; have HQ9 := Aside0.mk HB1)
            | (go_at_call 57; (refine (words_new [.txt ⟨#[102, 105, 101, 108, 100]⟩, .num st, .txt tq, .num b] _ (HP8.out.below HQ9.out) 1000 ?_ (by decide) (by decide) (by simp) (by simp)).mono ?_); (exact fun y hy => field_ok (by rw [← Hst.out]; exact Hsw.out) (by rw [← Htq.out]; exact text_size _ Hok3.out) HW.out.2.1 y hy); rintro e w10 ⟨rfl, B10⟩; have HB2 := bel_trans HQ9.out B10; clear HB1 B10; have HB1 := HB2; clear HB2)
            | (fail))
        all_goals go_wp2_with fail
        go_ret
        exact ⟨by rw [E1.out, ← Hst.out, ← Htq.out]; rfl, below_then HBz.out HBz.out.size HB1⟩
    · rw [if_neg (by omega), if_neg h0] at hpl
      simp at hpl
end Go.Proofs.YtkbbliicijnpjaaDoor.Tx
end

/- Xb: nodes: a ctx.Table and two rows of the call's own, all apart. -/
section
namespace Go.Proofs.YtkbbliicijnpjaaDoor.Tx
open Go.RowKit Go.Proofs.YtkbbliicijnpjaaDoorW.PrintWords Go.Proofs.YtkbbliicijnpjaaDoorW.PrintLast Go.Proofs.YtkbbliicijnpjaaDoorW.PrintMore
open Go.Proofs.YtkbbliicijnpjaaDoor.Base Go.Proofs.YtkbbliicijnpjaaDoor.Map Go.Proofs.YtkbbliicijnpjaaDoor.Ca Go.Proofs.YtkbbliicijnpjaaDoor.Qu Go.Proofs.YtkbbliicijnpjaaDoor.In Go.Proofs.YtkbbliicijnpjaaDoor.Kx Go.Maps Go.Proofs.YtkbbliicijnpjaaDoor.PNodeIds
set_option linter.unusedVariables false

abbrev SlH := Option Addr × Nat × Nat
/-- slices as they stand -/
def kV : Kd SlH where
  sz := 1
  E := []
  K := fun _ x cs => cs = [.slice x.1 x.2.1 x.2.2]
  M := fun _ _ _ x cs => cs = [.slice x.1 x.2.1 x.2.2]
  K_len := fun h => by rw [h]; rfl
  K_one := fun h u hu => by rw [h, List.mem_singleton] at hu; rw [hu]; rfl
  K_below := fun _ h => h
  K_of_M := fun h => h
  M_mono := fun _ h => h
  M_bound := fun h => h
  M_move := fun _ h => h
  M_lower := fun _ h => h
/-- objects as they stand -/
def kO : Kd (Int × SlH) where
  sz := 2
  E := []
  K := fun _ x cs => cs = [.int .i64 x.1, .slice x.2.1 x.2.2.1 x.2.2.2]
  M := fun _ _ _ x cs => cs = [.int .i64 x.1, .slice x.2.1 x.2.2.1 x.2.2.2]
  K_len := fun h => by rw [h]; rfl
  K_one := fun h u hu => by
    rw [h] at hu
    simp only [List.mem_cons, List.not_mem_nil, or_false] at hu
    rcases hu with rfl | rfl <;> rfl
  K_below := fun _ h => h
  K_of_M := fun h => h
  M_mono := fun _ h => h
  M_bound := fun h => h
  M_move := fun _ h => h
  M_lower := fun _ h => h
theorem info34 : (Tryd.prog.info? 34).map (fun i => (i.zero, i.size, i.bytes)) = some (some (.slice none 0 0), 1, 24) := by kernel_rfl
theorem info36 : (Tryd.prog.info? 36).map (fun i => (i.zero, i.size, i.bytes)) = some (some (.agg #[.int .i64 0, .slice none 0 0]), 2, 32) := by kernel_rfl
/-- the table, its blocks named -/
structure CTX (w0 w : World) (F G : Nat → Prop) (q p1 p2 : Nat) (cl ol : List (List Int)) (bs : List (Nat × Obj)) : Prop where
  mk :: (out : TabAt w F p1 [] cl ∧ TabAt w G p2 [] ol ∧ (∀ k, F k → ¬ G k) ∧ (∀ k, F k → w0.heap.size ≤ k ∧ k < w.heap.size) ∧ (∀ k, G k → w0.heap.size ≤ k ∧ k < w.heap.size) ∧ Below w0.heap.size w0 w ∧
    w.heap[q]? = some (.cells #[.pointer (some ⟨p1, 0, none⟩), .pointer (some ⟨p2, 0, none⟩)] 58 (0, 0)) ∧ w0.heap.size ≤ q ∧ ¬ F q ∧ ¬ G q ∧
    ∀ x ∈ bs, w.heap[x.1]? = some x.2 ∧ w0.heap.size ≤ x.1 ∧ ¬ F x.1 ∧ ¬ G x.1)
theorem CT.at_ {w0 w : World} {q p1 p2 : Nat} {cl ol : List (List Int)} {bs : List (Nat × Obj)} (h : CT w0 w q p1 p2 cl ol bs) : ∃ F G, CTX w0 w F G q p1 p2 cl ol bs := by obtain ⟨F, G, h⟩ := h; exact ⟨F, G, ⟨h⟩⟩
theorem CTX.ct {w0 w : World} {F G : Nat → Prop} {q p1 p2 : Nat} {cl ol : List (List Int)} {bs : List (Nat × Obj)} (h : CTX w0 w F G q p1 p2 cl ol bs) : CT w0 w q p1 p2 cl ol bs := ⟨F, G, h.out⟩
theorem CTX.below {w0 w w1 : World} {F G : Nat → Prop} {q p1 p2 : Nat} {cl ol : List (List Int)} {bs : List (Nat × Obj)} (h : CTX w0 w F G q p1 p2 cl ol bs) (hb : Below w.heap.size w w1) : CTX w0 w1 F G q p1 p2 cl ol bs := by
  obtain ⟨h1, h2, h3, h4, h5, h6, h7, h8, h9, h10, h11⟩ := h
  exact ⟨h1.below hb, h2.below hb, h3, fun k hk => ⟨(h4 k hk).1, Nat.lt_of_lt_of_le (h4 k hk).2 hb.size⟩, fun k hk => ⟨(h5 k hk).1, Nat.lt_of_lt_of_le (h5 k hk).2 hb.size⟩, below_then h6 h6.size hb, Qu.blk_below h7 hb, h8, h9, h10, fun x hx => ⟨Qu.blk_below (h11 x hx).1 hb, (h11 x hx).2⟩⟩
/-- a block of the call's own, apart from the table -/
def Apart (w0 w : World) (F G : Nat → Prop) (q : Nat) (bs : List (Nat × Obj)) (k : Nat) : Prop := w0.heap.size ≤ k ∧ k < w.heap.size ∧ ¬ F k ∧ ¬ G k ∧ k ≠ q ∧ ∀ x ∈ bs, k ≠ x.1
theorem CTX.chg {w0 w w1 : World} {F G C : Nat → Prop} {q p1 p2 : Nat} {cl ol : List (List Int)} {bs : List (Nat × Obj)} (h : CTX w0 w F G q p1 p2 cl ol bs) (hC : Chg C w w1) (hd : ∀ k, C k → Apart w0 w F G q bs k) : CTX w0 w1 F G q p1 p2 cl ol bs := by
  obtain ⟨h1, h2, h3, h4, h5, h6, h7, h8, h9, h10, h11⟩ := h
  refine ⟨h1.chg hC (fun k hk hc => (hd k hc).2.2.1 hk), h2.chg hC (fun k hk hc => (hd k hc).2.2.2.1 hk), h3, fun k hk => ⟨(h4 k hk).1, Nat.lt_of_lt_of_le (h4 k hk).2 hC.size⟩, fun k hk => ⟨(h5 k hk).1, Nat.lt_of_lt_of_le (h5 k hk).2 hC.size⟩, h6.trans (hC.below h6.size (fun k hk => (hd k hk).1)), hC.blk h7 (fun hc => (hd q hc).2.2.2.2.1 rfl), h8, h9, h10, fun x hx => ⟨hC.blk (h11 x hx).1 (fun hc => (hd _ hc).2.2.2.2.2 x hx rfl), (h11 x hx).2⟩⟩
theorem ctx_ctx (w0 w : World) (F G : Nat → Prop) (q p1 p2 : Nat) (cl ol : List (List Int)) (bs : List (Nat × Obj)) (u : Value) (ns : List Int) (h : CTX w0 w F G q p1 p2 cl ol bs) (hu : RdV w u ns) (hw : ∀ x ∈ ns, (Lit.int .i64 x).wf = true) (hlen : cl.length ≤ 1000000) :
    Calls Tryd.prog 27 #[.agg #[.pointer (some ⟨p1, 0, none⟩)], u] w fun e w' => e = .returned (.int .i64 (ctxId cl ns)) ∧ ∃ F2, CTX w0 w' F2 G q p1 p2 (ctxT cl ns) ol bs ∧ Chg F w w' ∧ ∀ k, F2 k → F k ∨ w.heap.size ≤ k := by
  obtain ⟨h1, h2, h3, h4, h5, h6, h7, h8, h9, h10, h11⟩ := h
  refine (ctx_any p1 F [] cl u ns w h1 (fun k hk => (h4 k hk).2) hu hw hlen).mono fun e w' ⟨r1, r2, r3⟩ => ⟨r1, ext F w w', ⟨r2, h2.chg r3 (fun k hg hf => h3 k hf hg), ?_, ?_, fun k hk => ⟨(h5 k hk).1, Nat.lt_of_lt_of_le (h5 k hk).2 r3.size⟩, h6.trans (r3.below h6.size (fun k hk => (h4 k hk).1)), r3.blk h7 h9, h8, ?_, h10, fun x hx => ⟨r3.blk (h11 x hx).1 (h11 x hx).2.2.1, (h11 x hx).2.1, fun hf => hf.elim (h11 x hx).2.2.1 (fun h => by have := blk_lt (h11 x hx).1; omega), (h11 x hx).2.2.2⟩⟩, r3, fun k hk => hk.elim .inl (fun h => .inr h.1)⟩
  · exact fun k hk hg => hk.elim (fun h => h3 k h hg) (fun h => by have := (h5 k hg).2; omega)
  · exact fun k hk => hk.elim (fun h => ⟨(h4 k h).1, Nat.lt_of_lt_of_le (h4 k h).2 r3.size⟩) (fun h => ⟨Nat.le_trans h6.size h.1, h.2⟩)
  · exact fun hk => hk.elim h9 (fun h => by have := blk_lt h7; omega)
theorem obj_ctx (w0 w : World) (F G : Nat → Prop) (q p1 p2 : Nat) (cl ol : List (List Int)) (bs : List (Nat × Obj)) (site : Int) (u : Value) (ns : List Int) (h : CTX w0 w F G q p1 p2 cl ol bs) (hu : RdV w u ns) (hs : (Lit.int .i64 site).wf = true) (hw : ∀ x ∈ ns, (Lit.int .i64 x).wf = true) (hlen : ol.length ≤ 1000000) :
    Calls Tryd.prog 28 #[.agg #[.pointer (some ⟨p2, 0, none⟩)], .agg #[.int .i64 site, u]] w fun e w' => e = .returned (.int .i64 (objId ol site ns)) ∧ ∃ G2, CTX w0 w' F G2 q p1 p2 cl (objT ol site ns) bs ∧ Chg G w w' ∧ ∀ k, G2 k → G k ∨ w.heap.size ≤ k := by
  obtain ⟨h1, h2, h3, h4, h5, h6, h7, h8, h9, h10, h11⟩ := h
  refine (obj_any p2 G [] ol site u ns w h2 (fun k hk => (h5 k hk).2) hu hs hw hlen).mono fun e w' ⟨r1, r2, r3⟩ => ⟨r1, ext G w w', ⟨h1.chg r3 h3, r2, ?_, fun k hk => ⟨(h4 k hk).1, Nat.lt_of_lt_of_le (h4 k hk).2 r3.size⟩, ?_, h6.trans (r3.below h6.size (fun k hk => (h5 k hk).1)), r3.blk h7 h10, h8, h9, ?_, fun x hx => ⟨r3.blk (h11 x hx).1 (h11 x hx).2.2.2, (h11 x hx).2.1, (h11 x hx).2.2.1, fun hf => hf.elim (h11 x hx).2.2.2 (fun h => by have := blk_lt (h11 x hx).1; omega)⟩⟩, r3, fun k hk => hk.elim .inl (fun h => .inr h.1)⟩
  · exact fun k hk hg => hg.elim (fun h => h3 k hk h) (fun h => by have := (h4 k hk).2; omega)
  · exact fun k hk => hk.elim (fun h => ⟨(h5 k h).1, Nat.lt_of_lt_of_le (h5 k h).2 r3.size⟩) (fun h => ⟨Nat.le_trans h6.size h.1, h.2⟩)
  · exact fun hk => hk.elim h10 (fun h => by have := blk_lt h7; omega)
/-- the table and two rows, apart -/
structure NNS (w0 w : World) (q p1 p2 : Nat) (cl ol : List (List Int)) (bs : List (Nat × Obj)) (v1 : Value) (vs : List SlH) (v2 : Value) (os : List (Int × SlH)) : Prop where
  mk :: (out : ∃ F G G1 G2, CTX w0 w F G q p1 p2 cl ol bs ∧ Kd.R kV 34 w 0 G1 v1 vs ∧ Kd.R kO 36 w 0 G2 v2 os ∧ (∀ k, G1 k → Apart w0 w F G q bs k ∧ ¬ G2 k) ∧ ∀ k, G2 k → Apart w0 w F G q bs k)
section
variable {w0 w w1 : World} {q p1 p2 : Nat} {cl ol : List (List Int)} {bs : List (Nat × Obj)} {v1 v2 : Value} {vs : List SlH} {os : List (Int × SlH)}
theorem NNS.ct (h : NNS w0 w q p1 p2 cl ol bs v1 vs v2 os) : CT w0 w q p1 p2 cl ol bs := by obtain ⟨F, G, G1, G2, h, _⟩ := h; exact h.ct
theorem NNS.bel (h : NNS w0 w q p1 p2 cl ol bs v1 vs v2 os) : Below w0.heap.size w0 w := h.ct.bel
theorem NNS.rdV (h : NNS w0 w q p1 p2 cl ol bs v1 vs v2 os) : ∃ A c, v1 = .slice A vs.length c ∧ vs.length ≤ c ∧ kV.C w A vs.length vs := by obtain ⟨F, G, G1, G2, _, h, _⟩ := h; exact Kd.R_reads h
theorem NNS.rdO (h : NNS w0 w q p1 p2 cl ol bs v1 vs v2 os) : ∃ A c, v2 = .slice A os.length c ∧ os.length ≤ c ∧ kO.C w A os.length os := by obtain ⟨F, G, G1, G2, _, _, h, _⟩ := h; exact Kd.R_reads h
theorem Apart.le {F G : Nat → Prop} {k : Nat} (h : Apart w0 w F G q bs k) (hs : w.heap.size ≤ w1.heap.size) : Apart w0 w1 F G q bs k := ⟨h.1, Nat.lt_of_lt_of_le h.2.1 hs, h.2.2⟩
theorem NNS.below (h : NNS w0 w q p1 p2 cl ol bs v1 vs v2 os) (hb : Below w.heap.size w w1) : NNS w0 w1 q p1 p2 cl ol bs v1 vs v2 os := by
  obtain ⟨F, G, G1, G2, h1, h2, h3, h4, h5⟩ := h
  exact ⟨F, G, G1, G2, h1.below hb, Kd.R_step h2 (fun k hk hlt => hb.block k hlt), Kd.R_step h3 (fun k hk hlt => hb.block k hlt), fun k hk => ⟨(h4 k hk).1.le hb.size, (h4 k hk).2⟩, fun k hk => (h5 k hk).le hb.size⟩
theorem NNS.start (h : CT w0 w q p1 p2 cl ol bs) : NNS w0 w q p1 p2 cl ol bs (.slice none 0 0) [] (.slice none 0 0) [] := by
  obtain ⟨F, G, h⟩ := h.at_
  exact ⟨F, G, fun _ => False, fun _ => False, h, Kd.R_nil _ _ _ _ _, Kd.R_nil _ _ _ _ _, fun k hk => hk.elim, fun k hk => hk.elim⟩
end
theorem ctx_nns (w0 w : World) (q p1 p2 : Nat) (cl ol : List (List Int)) (bs : List (Nat × Obj)) (v1 v2 : Value) (vs : List SlH) (os : List (Int × SlH)) (u : Value) (ns : List Int) (h : NNS w0 w q p1 p2 cl ol bs v1 vs v2 os) (hu : RdV w u ns) (hw : ∀ x ∈ ns, (Lit.int .i64 x).wf = true) (hlen : cl.length ≤ 1000000) :
    Calls Tryd.prog 27 #[.agg #[.pointer (some ⟨p1, 0, none⟩)], u] w fun e w' => e = .returned (.int .i64 (ctxId cl ns)) ∧ NNS w0 w' q p1 p2 (ctxT cl ns) ol bs v1 vs v2 os := by
  obtain ⟨F, G, G1, G2, h1, h2, h3, h4, h5⟩ := h
  refine (ctx_ctx w0 w F G q p1 p2 cl ol bs u ns h1 hu hw hlen).mono fun e w' ⟨r1, F2, r2, r3, r4⟩ => ⟨r1, F2, G, G1, G2, r2, Kd.R_step h2 (fun k hk hlt => r3.block k hlt (h4 k hk).1.2.2.1), Kd.R_step h3 (fun k hk hlt => r3.block k hlt (h5 k hk).2.2.1), fun k hk => ⟨?_, (h4 k hk).2⟩, fun k hk => ?_⟩
  · obtain ⟨a1, a2, a3, a4⟩ := (h4 k hk).1
    exact ⟨a1, Nat.lt_of_lt_of_le a2 r3.size, fun hf => (r4 k hf).elim a3 (fun h => by omega), a4⟩
  · obtain ⟨a1, a2, a3, a4⟩ := h5 k hk
    exact ⟨a1, Nat.lt_of_lt_of_le a2 r3.size, fun hf => (r4 k hf).elim a3 (fun h => by omega), a4⟩
theorem obj_nns (w0 w : World) (q p1 p2 : Nat) (cl ol : List (List Int)) (bs : List (Nat × Obj)) (v1 v2 : Value) (vs : List SlH) (os : List (Int × SlH)) (site : Int) (u : Value) (ns : List Int) (h : NNS w0 w q p1 p2 cl ol bs v1 vs v2 os) (hu : RdV w u ns) (hs : (Lit.int .i64 site).wf = true) (hw : ∀ x ∈ ns, (Lit.int .i64 x).wf = true) (hlen : ol.length ≤ 1000000) :
    Calls Tryd.prog 28 #[.agg #[.pointer (some ⟨p2, 0, none⟩)], .agg #[.int .i64 site, u]] w fun e w' => e = .returned (.int .i64 (objId ol site ns)) ∧ NNS w0 w' q p1 p2 cl (objT ol site ns) bs v1 vs v2 os := by
  obtain ⟨F, G, G1, G2, h1, h2, h3, h4, h5⟩ := h
  refine (obj_ctx w0 w F G q p1 p2 cl ol bs site u ns h1 hu hs hw hlen).mono fun e w' ⟨r1, H2, r2, r3, r4⟩ => ⟨r1, F, H2, G1, G2, r2, Kd.R_step h2 (fun k hk hlt => r3.block k hlt (h4 k hk).1.2.2.2.1), Kd.R_step h3 (fun k hk hlt => r3.block k hlt (h5 k hk).2.2.2.1), fun k hk => ⟨?_, (h4 k hk).2⟩, fun k hk => ?_⟩
  · obtain ⟨a1, a2, a3, a4, a5⟩ := (h4 k hk).1
    exact ⟨a1, Nat.lt_of_lt_of_le a2 r3.size, a3, fun hf => (r4 k hf).elim a4 (fun h => by omega), a5⟩
  · obtain ⟨a1, a2, a3, a4, a5⟩ := h5 k hk
    exact ⟨a1, Nat.lt_of_lt_of_le a2 r3.size, a3, fun hf => (r4 k hf).elim a4 (fun h => by omega), a5⟩
/-- what is new is apart -/
theorem CTX.new {w0 w w1 : World} {F G : Nat → Prop} {q p1 p2 : Nat} {cl ol : List (List Int)} {bs : List (Nat × Obj)} (h : CTX w0 w F G q p1 p2 cl ol bs) {k : Nat} (hk : w.heap.size ≤ k ∧ k < w1.heap.size) : Apart w0 w1 F G q bs k := by
  obtain ⟨h1, h2, h3, h4, h5, h6, h7, h8, h9, h10, h11⟩ := h
  exact ⟨Nat.le_trans h6.size hk.1, hk.2, fun hf => by have := (h4 k hf).2; omega, fun hf => by have := (h5 k hf).2; omega, fun e => by have := blk_lt h7; omega, fun x hx e => by have := blk_lt (h11 x hx).1; omega⟩
section
variable {ops : Array Oper} {rest : List Oper} {o : Oper} {a : Act} {Q : Exit → Act → World → Prop}
theorem appV {w0 W : World} {q p1 p2 : Nat} {cl ol : List (List Int)} {bs : List (Nat × Obj)} (hgd : o.guard = none) (s y : Operand) (ho : o.op = .call { callee := .builtin .append, args := #[s, y], argTypes := #[43, 43] })
    (v1 v2 : Value) (vs : List SlH) (os : List (Int × SlH)) (n : SlH) (b : Nat) (hs : a.eval s = v1) (hx : a.eval y = .slice (some ⟨b, 0, none⟩) 1 1) (HS : NNS w0 W q p1 p2 cl ol bs v1 vs v2 os) (hb : W.heap[b]? = some (.cells #[.slice n.1 n.2.1 n.2.2] 34 (0, 0))) (hl : vs.length ≤ 1000000)
    (h : ∀ v w1, NNS w0 w1 q p1 p2 cl ol bs v (vs ++ [n]) v2 os → wpList Tryd.prog ops Q rest (a.put o.dst v) w1) :
    wpList Tryd.prog ops Q (o :: rest) a W := by
  obtain ⟨F, G, G1, G2, h1, h2, h3, h4, h5⟩ := HS
  have HS' : Kd.R kV 34 W 0 (fun k => G1 k ∨ W.heap.size ≤ k) v1 vs := Kd.R_mono h2 (fun k hk => .inl hk)
  refine Kd.R_append_rows kV (Rr := fun x cs => cs = [.slice x.1 x.2.1 x.2.2]) (w0 := W) 0 hgd s y 43 34 _ 24 ho Tryd.underlying43 info34 rfl (by decide) (by decide) v1 vs [n] (some ⟨b, 0, none⟩) 1 1 (fun k => G1 k ∨ W.heap.size ≤ k) (fun _ => False) hs hx HS'
    ⟨rfl, by omega, fun _ => ⟨_, rfl, fun j t hj => ⟨_, rfl, rfl, fun i u hu => ?_⟩⟩⟩ (fun s cs e => e) (fun _ hk => hk.elim) (fun k hk => .inr hk) (Below.refl _ _) (Nat.zero_le _) (by omega) ?_
  · have : j = 0 := by have := (List.getElem?_eq_some_iff.1 hj).1; simp at this; omega
    subst this
    have : n = t := by simpa using hj
    subst this
    have hadd : (⟨b, 0, none⟩ : Addr).add (0 * kV.sz + i) = ⟨b, i, none⟩ := by unfold Addr.add; split <;> simp_all
    rw [hadd, cell_of_row W b i _ 34 (0, 0) hb]
    simpa using hu
  · intro v w1 hR hB hg hat
    have hC : Chg G1 W w1 := Chg.of_grown hg (fun k hk => h2.1 k hk)
    refine h v w1 ⟨F, G, fun k => G1 k ∨ (W.heap.size ≤ k ∧ k < w1.heap.size), G2, h1.chg hC (fun k hk => (h4 k hk).1), Kd.R_mono (Kd.R_bound hR) (fun k hk => hk.1.elim .inl (fun h => .inr ⟨h, hk.2.2.1⟩)), Kd.R_step h3 (fun k hk hlt => hC.block k hlt (fun hg1 => (h4 k hg1).2 hk)), fun k hk => ?_, fun k hk => (h5 k hk).le hC.size⟩
    rcases hk with hk | hk
    · exact ⟨(h4 k hk).1.le hC.size, (h4 k hk).2⟩
    · exact ⟨h1.new hk, fun h => by have := (h5 k h).2.1; omega⟩
theorem appO {w0 W : World} {q p1 p2 : Nat} {cl ol : List (List Int)} {bs : List (Nat × Obj)} (hgd : o.guard = none) (s y : Operand) (ho : o.op = .call { callee := .builtin .append, args := #[s, y], argTypes := #[44, 44] })
    (v1 v2 : Value) (vs : List SlH) (os : List (Int × SlH)) (n : Int × SlH) (b : Nat) (hs : a.eval s = v2) (hx : a.eval y = .slice (some ⟨b, 0, none⟩) 1 1) (HS : NNS w0 W q p1 p2 cl ol bs v1 vs v2 os) (hb : W.heap[b]? = some (.cells #[.int .i64 n.1, .slice n.2.1 n.2.2.1 n.2.2.2] 36 (0, 0))) (hl : os.length ≤ 1000000)
    (h : ∀ v w1, NNS w0 w1 q p1 p2 cl ol bs v1 vs v (os ++ [n]) → wpList Tryd.prog ops Q rest (a.put o.dst v) w1) :
    wpList Tryd.prog ops Q (o :: rest) a W := by
  obtain ⟨F, G, G1, G2, h1, h2, h3, h4, h5⟩ := HS
  have HS' : Kd.R kO 36 W 0 (fun k => G2 k ∨ W.heap.size ≤ k) v2 os := Kd.R_mono h3 (fun k hk => .inl hk)
  refine Kd.R_append_rows kO (Rr := fun x cs => cs = [.int .i64 x.1, .slice x.2.1 x.2.2.1 x.2.2.2]) (w0 := W) 0 hgd s y 44 36 _ 32 ho Tryd.underlying44 info36 rfl (by decide) (by decide) v2 os [n] (some ⟨b, 0, none⟩) 1 1 (fun k => G2 k ∨ W.heap.size ≤ k) (fun _ => False) hs hx HS'
    ⟨rfl, by omega, fun _ => ⟨_, rfl, fun j t hj => ⟨_, rfl, rfl, fun i u hu => ?_⟩⟩⟩ (fun s cs e => e) (fun _ hk => hk.elim) (fun k hk => .inr hk) (Below.refl _ _) (Nat.zero_le _) (by omega) ?_
  · have : j = 0 := by have := (List.getElem?_eq_some_iff.1 hj).1; simp at this; omega
    subst this
    have : n = t := by simpa using hj
    subst this
    have hadd : (⟨b, 0, none⟩ : Addr).add (0 * kO.sz + i) = ⟨b, i, none⟩ := by unfold Addr.add; split <;> simp_all
    rw [hadd, cell_of_row W b i _ 36 (0, 0) hb]
    simpa using hu
  · intro v w1 hR hB hg hat
    have hC : Chg G2 W w1 := Chg.of_grown hg (fun k hk => h3.1 k hk)
    refine h v w1 ⟨F, G, G1, fun k => G2 k ∨ (W.heap.size ≤ k ∧ k < w1.heap.size), h1.chg hC (fun k hk => h5 k hk), Kd.R_step h2 (fun k hk hlt => hC.block k hlt (fun hg1 => (h4 k hk).2 hg1)), Kd.R_mono (Kd.R_bound hR) (fun k hk => hk.1.elim .inl (fun h => .inr ⟨h, hk.2.2.1⟩)), fun k hk => ⟨(h4 k hk).1.le hC.size, fun h => h.elim (h4 k hk).2 (fun h => by have := (h4 k hk).1.2.1; omega)⟩, fun k hk => ?_⟩
    rcases hk with hk | hk
    · exact (h5 k hk).le hC.size
    · exact h1.new hk
end
end Go.Proofs.YtkbbliicijnpjaaDoor.Tx
end
