/- Ka, Kb -/
import Derived.Test.YtkbbliicijnpjaaDoorIl
import Derived.Test.YtkbbliicijnpjaaDoorCc
import Derived.BigRegion
import Derived.Test.YtkbbliicijnpjaaDoorQd
import Derived.Laws.ResultCell
/- Ka: ctx.contexts, ctx.objects: Ctx, Context, Obj, Object, Objects, over the tables of layer 4. -/
section
namespace Go.Proofs.YtkbbliicijnpjaaDoor.Kx
open Go.RowKit Go.Proofs.YtkbbliicijnpjaaDoorW.PrintWords Go.Proofs.YtkbbliicijnpjaaDoorW.PrintLast Go.Proofs.YtkbbliicijnpjaaDoorW.PrintMore
open Go.Proofs.YtkbbliicijnpjaaDoor.Base Go.Proofs.YtkbbliicijnpjaaDoor.Map Go.Proofs.YtkbbliicijnpjaaDoor.Ca Go.Proofs.YtkbbliicijnpjaaDoor.Qu Go.Proofs.YtkbbliicijnpjaaDoor.In Go.Maps
set_option linter.unusedVariables false

/-- a context's number -/
def ctxId (tl : List (List Int)) (ns : List Int) : Int := if 3 < ns.length then -1 else idOf tl ns
def ctxT (tl : List (List Int)) (ns : List Int) : List (List Int) := if 3 < ns.length then tl else idL tl ns

set_option maxHeartbeats 1000000 in
set_option maxRecDepth 100000 in
theorem ctx_any (p : Nat) (F : Nat → Prop) (sl : List ByteArray) (tl : List (List Int)) (u : Value) (ns : List Int) (w : World) (h : TabAt w F p sl tl) (hF : ∀ k, F k → k < w.heap.size) (hu : RdV w u ns) (hw : ∀ x ∈ ns, (Lit.int .i64 x).wf = true) (hlen : tl.length ≤ 1000000) :
    Calls Tryd.prog 27 #[.agg #[.pointer (some ⟨p, 0, none⟩)], u] w fun e w' => e = .returned (.int .i64 (ctxId tl ns)) ∧ TabAt w' (ext F w w') p sl (ctxT tl ns) ∧ Chg F w w' := by
  have hu0 := hu
  obtain ⟨A, c, rfl, hc, hr⟩ := hu
  have hb := below_alloc (Below.refl w.heap.size w) (.cells #[.pointer (some ⟨p, 0, none⟩)] 55)
  have ht := h.below hb
  have hu1 := hu0.below hb
  by_cases h3 : (3 : Int) < ns.length
  · have e1 : ctxId tl ns = -1 := by unfold ctxId; rw [if_pos (by omega)]
    have e2 : ctxT tl ns = tl := by unfold ctxT; rw [if_pos (by omega)]
    rw [e1, e2]
    go_enter Tryd.func27, Tryd.ntmps27
    go_wp2
    go_ret
    exact ⟨rfl, ht.mono (fun k hk => .inl hk), Chg.alloc w _ F⟩
  · have e1 : ctxId tl ns = idOf tl ns := by unfold ctxId; rw [if_neg (by omega)]
    have e2 : ctxT tl ns = idL tl ns := by unfold ctxT; rw [if_neg (by omega)]
    rw [e1, e2]
    have Hc := Aside0.mk hc
    clear hc
    go_enter Tryd.func27, Tryd.ntmps27
    go_wp2_with fail
    refine (id_any p F sl tl _ ns _ ht hu1 hw hlen).mono ?_
    rintro e w2 ⟨rfl, r1, r2⟩
    go_wp2
    go_ret
    refine ⟨rfl, r1.mono (fun k hk => hk.elim .inl (fun h => .inr ⟨by have := h.1; simp at this; omega, h.2⟩)), (Chg.alloc w _ F).then_ r2 (fun k hk => .inl hk)⟩

set_option maxHeartbeats 1000000 in
set_option maxRecDepth 100000 in
theorem context_any (p : Nat) (F : Nat → Prop) (sl : List ByteArray) (tl : List (List Int)) (w : World) (h : TabAt w F p sl tl) (id : Int) :
    Calls Tryd.prog 56 #[.agg #[.pointer (some ⟨p, 0, none⟩)], .int .i64 id] w fun e w' => ∃ v, e = .returned v ∧ OwI w' w.heap.size v (tupleOf tl id) ∧ Below w.heap.size w w' := by
  have hb := below_alloc (Below.refl w.heap.size w) (.cells #[.pointer (some ⟨p, 0, none⟩)] 55)
  have ht := h.below hb
  go_enter Tryd.func56, Tryd.ntmps56
  go_wp2_with fail
  refine (tuple_tab p F sl tl _ ht id).mono ?_
  rintro e w2 ⟨v, rfl, r1, r2⟩
  go_wp2
  go_ret
  exact ⟨_, rfl, r1.lower (by simp), below_then hb (by simp) r2⟩

def objId (tl : List (List Int)) (site : Int) (ns : List Int) : Int := if 3 < ns.length then -1 else idOf tl (site :: ns)
def objT (tl : List (List Int)) (site : Int) (ns : List Int) : List (List Int) := if 3 < ns.length then tl else idL tl (site :: ns)

set_option maxHeartbeats 2000000 in
set_option maxRecDepth 100000 in
theorem obj_any (p : Nat) (F : Nat → Prop) (sl : List ByteArray) (tl : List (List Int)) (site : Int) (u : Value) (ns : List Int) (w : World) (h : TabAt w F p sl tl) (hF : ∀ k, F k → k < w.heap.size) (hu : RdV w u ns) (hs : (Lit.int .i64 site).wf = true) (hw : ∀ x ∈ ns, (Lit.int .i64 x).wf = true) (hlen : tl.length ≤ 1000000) :
    Calls Tryd.prog 28 #[.agg #[.pointer (some ⟨p, 0, none⟩)], .agg #[.int .i64 site, u]] w fun e w' => e = .returned (.int .i64 (objId tl site ns)) ∧ TabAt w' (ext F w w') p sl (objT tl site ns) ∧ Chg F w w' := by
  have hu0 := hu
  obtain ⟨A, c, rfl, hc, hr⟩ := hu
  have hb : Below w.heap.size w ((w.alloc (.cells #[.pointer (some ⟨p, 0, none⟩)] 56)).alloc (.cells #[.int .i64 site, .slice A ns.length c] 36)) := below_alloc (below_alloc (Below.refl _ _) _) _
  have ht := h.below hb
  have hu1 := hu0.below hb
  by_cases h3 : (3 : Int) < ns.length
  · have e1 : objId tl site ns = -1 := by unfold objId; rw [if_pos (by omega)]
    have e2 : objT tl site ns = tl := by unfold objT; rw [if_pos (by omega)]
    rw [e1, e2]
    go_enter Tryd.func28, Tryd.ntmps28
    go_wp2
    go_ret
    exact ⟨rfl, ht.mono (fun k hk => .inl hk), Chg.of_below hb F⟩
  · have e1 : objId tl site ns = idOf tl (site :: ns) := by unfold objId; rw [if_neg (by omega)]
    have e2 : objT tl site ns = idL tl (site :: ns) := by unfold objT; rw [if_neg (by omega)]
    rw [e1, e2]
    have Hc := Aside0.mk hc
    have hwf : ∀ x ∈ site :: ns, (Lit.int .i64 x).wf = true := fun x hx => by
      rcases List.mem_cons.1 hx with rfl | hx
      · exact hs
      · exact hw x hx
    have Hwf := Aside0.mk hwf
    clear hc hs hw hwf
    go_enter Tryd.func28, Tryd.ntmps28
    go_wp2_with fail
    have hsz : w.heap.size + 2 ≤ ((w.alloc (.cells #[.pointer (some ⟨p, 0, none⟩)] 56)).alloc (.cells #[.int .i64 site, .slice A ns.length c] 36)).heap.size := by simp
    have hk0 : ((w.alloc (.cells #[.pointer (some ⟨p, 0, none⟩)] 56)).alloc (.cells #[.int .i64 site, .slice A ns.length c] 36)).cell? ⟨w.heap.size, 0, none⟩ = some (.pointer (some ⟨p, 0, none⟩)) := by simp
    have hk1 : ((w.alloc (.cells #[.pointer (some ⟨p, 0, none⟩)] 56)).alloc (.cells #[.int .i64 site, .slice A ns.length c] 36)).cell? ⟨w.heap.size + 1, 0, none⟩ = some (.int .i64 site) := by simp
    have hk2 : ((w.alloc (.cells #[.pointer (some ⟨p, 0, none⟩)] 56)).alloc (.cells #[.int .i64 site, .slice A ns.length c] 36)).cell? ⟨w.heap.size + 1, 1, none⟩ = some (.slice A ns.length c) := by simp
    generalize (w.alloc (.cells #[.pointer (some ⟨p, 0, none⟩)] 56)).alloc (.cells #[.int .i64 site, .slice A ns.length c] 36) = w1 at *
    refine wp_region_held_drew (S := (fun W => W.cell? ⟨w.heap.size, 0, none⟩ = some (.pointer (some ⟨p, 0, none⟩)) ∧ W.cell? ⟨w.heap.size + 1, 0, none⟩ = some (.int .i64 site) ∧ W.cell? ⟨w.heap.size + 1, 1, none⟩ = some (.slice A ns.length c))) (by kernel_rfl) ?_ (fun hHeld => ?_)
    · exact ⟨bel_cell (wb := w1) (by simp [*, Below.refl]) hk0, bel_cell (wb := w1) (by simp [*, Below.refl]) hk1, bel_cell (wb := w1) (by simp [*, Below.refl]) hk2⟩
    refine wpAnyH_take (i := 0) (oi := _) (v := ?_) (List.getElem?_toArray.trans rfl) (by kernel_rfl) (by kernel_rfl) (by kernel_rfl) (fun _ _ _ h => h) (Or.inl ⟨by rfl, ?_⟩) (by assumption) ?_
    rotate_left
    · intro w hSw; (try dsimp only at hSw); go_simp <;> with_reducible rfl
    try simp only [Act.put, List.setIfInBounds_toArray, List.set_cons_zero, List.set_cons_succ]
    refine wpAnyH_take (i := 1) (oi := _) (v := ?_) (List.getElem?_toArray.trans rfl) (by kernel_rfl) (by kernel_rfl) (by kernel_rfl) (fun _ _ _ h => h) (Or.inl ⟨by rfl, ?_⟩) (by assumption) ?_
    rotate_left
    · intro w hSw; (try dsimp only at hSw); go_simp <;> with_reducible rfl
    try simp only [Act.put, List.setIfInBounds_toArray, List.set_cons_zero, List.set_cons_succ]
    refine wpAnyH_take (i := 2) (oi := _) (v := ?_) (List.getElem?_toArray.trans rfl) (by kernel_rfl) (by kernel_rfl) (by kernel_rfl) (fun _ _ _ h => h) (Or.inl ⟨by rfl, ?_⟩) (by assumption) ?_
    rotate_left
    · intro w hSw; (try dsimp only at hSw); go_simp <;> with_reducible rfl
    try simp only [Act.put, List.setIfInBounds_toArray, List.set_cons_zero, List.set_cons_succ]
    refine wpAnyH_take (i := 3) (oi := _) (v := ?_) (List.getElem?_toArray.trans rfl) (by kernel_rfl) (by kernel_rfl) (by kernel_rfl) (fun _ _ _ h => h) (Or.inl ⟨by rfl, ?_⟩) (by assumption) ?_
    rotate_left
    · intro w hSw; (try dsimp only at hSw); go_simp <;> with_reducible rfl
    try simp only [Act.put, List.setIfInBounds_toArray, List.set_cons_zero, List.set_cons_succ]
    refine wpAnyH_take (i := 5) (oi := _) (v := ?_) (List.getElem?_toArray.trans rfl) (by kernel_rfl) (by kernel_rfl) (by kernel_rfl) (fun _ _ _ h => h) (Or.inl ⟨by rfl, ?_⟩) (by assumption) ?_
    rotate_left
    · intro w hSw; (try dsimp only at hSw); go_simp <;> with_reducible rfl
    try simp only [Act.put, List.setIfInBounds_toArray, List.set_cons_zero, List.set_cons_succ]
    refine wpAnyH_take (i := 6) (oi := _) (v := ?_) (List.getElem?_toArray.trans rfl) (by kernel_rfl) (by kernel_rfl) (by kernel_rfl) (fun _ _ _ h => h) (Or.inl ⟨by rfl, ?_⟩) (by assumption) ?_
    rotate_left
    · intro w hSw; (try dsimp only at hSw); go_simp <;> with_reducible rfl
    try simp only [Act.put, List.setIfInBounds_toArray, List.set_cons_zero, List.set_cons_succ]
    refine wpAnyH_ready (rs := [4]) (by kernel_rfl) (by simp) ?_
    refine AllReadyH.cons (o := _) (List.getElem?_toArray.trans rfl) (fun K hK => ?_) AllReadyH.nil
    go_simp
    refine hK.out _ _ ?_ (fun hHeld => ?_)
    · exact ⟨bel_cell (wb := w1) (by simp [*, Below.refl]) hk0, bel_cell (wb := w1) (by simp [*, Below.refl]) hk1, bel_cell (wb := w1) (by simp [*, Below.refl]) hk2⟩
    clear hK K
    try simp only [Act.put, List.setIfInBounds_toArray, List.set_cons_zero, List.set_cons_succ]
    have HO : OwI ((w1.alloc (.cells #[.int .i64 site] 3)).drew) w1.heap.size (.slice (some ⟨w1.heap.size, 0, none⟩) 1 1) [site] := (OwI.lit w1 [site] (by simp)).drew
    have HB : Below w1.heap.size w1 ((w1.alloc (.cells #[.int .i64 site] 3)).drew) := by simp [Below.refl]
    refine wpAnyH_ready (rs := [7]) (by kernel_rfl) (by simp) ?_
    refine AllReadyH.cons (o := _) (List.getElem?_toArray.trans rfl) (fun K hK => ?_) AllReadyH.nil
    refine app_row_step (w0 := w1) w1.heap.size (by rfl) (.tmp 13) (.tmp 15) (by rfl) _ _ [site] ns (by rfl) (by rfl) HO (hu1.below HB) HB HB.size (by simp; omega) ?_
    intro v3 w3 H3 HB3 hg3 hat3
    refine hK.out _ _ ?_ (fun hHeld => ?_)
    · exact ⟨bel_cell HB3 hk0, bel_cell HB3 hk1, bel_cell HB3 hk2⟩
    clear hK K hg3 hat3
    try simp only [Act.put, List.setIfInBounds_toArray, List.set_cons_zero, List.set_cons_succ]
    refine wpAnyH_ready (rs := [8]) (by kernel_rfl) (by simp) ?_
    refine AllReadyH.cons (o := _) (List.getElem?_toArray.trans rfl) (fun K hK => ?_) AllReadyH.nil
    go_simp
    refine (id_any p F sl tl _ (site :: ns) _ (ht.below HB3) H3.toV Hwf.out hlen).mono ?_
    rintro e w4 ⟨rfl, r1, r2⟩
    go_wp2_with fail
    refine hK.out _ _ ?_ (fun hHeld => ?_)
    · exact ⟨chg_cell r2 (fun hf => by have := hF _ hf; omega) (bel_cell HB3 hk0), chg_cell r2 (fun hf => by have := hF _ hf; omega) (bel_cell HB3 hk1), chg_cell r2 (fun hf => by have := hF _ hf; omega) (bel_cell HB3 hk2)⟩
    clear hK K
    try simp only [Act.put, List.setIfInBounds_toArray, List.set_cons_zero, List.set_cons_succ]
    refine wpAnyH_take (i := 9) (oi := _) (v := ?_) (List.getElem?_toArray.trans rfl) (by kernel_rfl) (by kernel_rfl) (by kernel_rfl) (fun _ _ _ h => h) (Or.inl ⟨by rfl, ?_⟩) (by assumption) ?_
    rotate_left
    · intro w hSw; (try dsimp only at hSw); go_simp <;> with_reducible rfl
    try simp only [Act.put, List.setIfInBounds_toArray, List.set_cons_zero, List.set_cons_succ]
    refine wpAnyH_done (by kernel_rfl) ?_ _
    go_wp2
    go_ret
    exact ⟨rfl, r1.mono (fun k hk => hk.elim .inl (fun h => .inr ⟨by have := h.1; have := HB3.size; omega, h.2⟩)), ((Chg.of_below hb F).then_ (Chg.of_below HB3 F) (fun k hk => .inl hk)).then_ r2 (fun k hk => .inl hk)⟩
end Go.Proofs.YtkbbliicijnpjaaDoor.Kx
end

/- Kb: ctx.objects: Object; ctx.New: two tables apart. -/
section
namespace Go.Proofs.YtkbbliicijnpjaaDoor.Kx
open Go.RowKit Go.Proofs.YtkbbliicijnpjaaDoorW.PrintWords Go.Proofs.YtkbbliicijnpjaaDoorW.PrintLast Go.Proofs.YtkbbliicijnpjaaDoorW.PrintMore
open Go.Proofs.YtkbbliicijnpjaaDoor.Base Go.Proofs.YtkbbliicijnpjaaDoor.Map Go.Proofs.YtkbbliicijnpjaaDoor.Ca Go.Proofs.YtkbbliicijnpjaaDoor.Qu Go.Proofs.YtkbbliicijnpjaaDoor.In Go.Maps
set_option linter.unusedVariables false

theorem add_nil (a : Addr) : a.add 0 = a := by unfold Addr.add; simp
theorem fr_bel {W w2 : World} {b n : Nat} (h : Below W.heap.size W w2) (hb : W.heap[b]? = some (.cells #[.int .i64 0, .slice none 0 0] 36 (0, 0))) : w2.frozen? ⟨b, n, none⟩ = false := blk_frozen (Qu.blk_below hb h) n

set_option maxHeartbeats 1000000 in
set_option maxRecDepth 100000 in
theorem object_none (p : Nat) (F : Nat → Prop) (sl : List ByteArray) (tl : List (List Int)) (w : World) (h : TabAt w F p sl tl) (id : Int) (hid : tupleOf tl id = []) :
    Calls Tryd.prog 58 #[.agg #[.pointer (some ⟨p, 0, none⟩)], .int .i64 id] w fun e w' => e = .returned (.tuple #[.agg #[.int .i64 0, .slice none 0 0], .bool false]) ∧ Below w.heap.size w w' := by
  have hb : Below w.heap.size w ((w.alloc (.cells #[.pointer (some ⟨p, 0, none⟩)] 56)).alloc (.cells #[.int .i64 0, .slice none 0 0] 36)) := below_alloc (below_alloc (Below.refl _ _) _) _
  have ht := h.below hb
  have Hid := Aside0.mk hid
  clear hid
  go_enter Tryd.func58, Tryd.ntmps58
  go_wp2_with fail
  refine (tuple_tab p F sl tl _ ht id).mono ?_
  rintro e w2 ⟨v, rfl, r1, r2⟩
  rw [Hid.out] at r1
  obtain ⟨A, c, rfl, _, _⟩ := r1.rd
  rw [List.length_nil]
  have hk : w2.cell? ⟨w.heap.size + 1, 0, none⟩ = some (.int .i64 0) := bel_cell r2 (by simp)
  have hk1 : w2.cell? ⟨w.heap.size + 1, 1, none⟩ = some (.slice none 0 0) := bel_cell r2 (by simp)
  have hz := fr_bel (b := w.heap.size + 1) (n := 0) r2 (by simpa using heap_alloc_new (w.alloc (.cells #[.pointer (some ⟨p, 0, none⟩)] 56)) (.cells #[.int .i64 0, .slice none 0 0] 36))
  have hz1 := fr_bel (b := w.heap.size + 1) (n := 1) r2 (by simpa using heap_alloc_new (w.alloc (.cells #[.pointer (some ⟨p, 0, none⟩)] 56)) (.cells #[.int .i64 0, .slice none 0 0] 36))
  have hB := below_then hb (by simp; omega) r2
  clear r1 r2 ht
  go_wp2
  (try simp only [Exit.inBlock, Exit.then])
  refine bodyPost_ret (v := .tuple #[.agg #[.int .i64 0, .slice none 0 0], .bool false]) ?_ rfl ⟨rfl, ?_⟩
  · rw [Go.results_cell_tmp rfl]
    go_simp
  · simp [*]

set_option maxHeartbeats 2000000 in
set_option maxRecDepth 100000 in
theorem object_some (p : Nat) (F : Nat → Prop) (sl : List ByteArray) (tl : List (List Int)) (w : World) (h : TabAt w F p sl tl) (id : Int) (x : Int) (xs : List Int) (hid : tupleOf tl id = x :: xs) :
    Calls Tryd.prog 58 #[.agg #[.pointer (some ⟨p, 0, none⟩)], .int .i64 id] w fun e w' => ∃ u, e = .returned (.tuple #[.agg #[.int .i64 x, u], .bool true]) ∧ RdV w' u xs ∧ Below w.heap.size w w' := by
  have hb : Below w.heap.size w ((w.alloc (.cells #[.pointer (some ⟨p, 0, none⟩)] 56)).alloc (.cells #[.int .i64 0, .slice none 0 0] 36)) := below_alloc (below_alloc (Below.refl _ _) _) _
  have ht := h.below hb
  have Hid := Aside0.mk hid
  clear hid
  go_enter Tryd.func58, Tryd.ntmps58
  go_wp2_with fail
  refine (tuple_tab p F sl tl _ ht id).mono ?_
  rintro e w2 ⟨v, rfl, r1, r2⟩
  rw [Hid.out] at r1
  have hV := r1.toV
  obtain ⟨A, c, rfl, hc, hr⟩ := r1.rd
  obtain ⟨ad, hA, hx0⟩ := hr.at_ 0 (by omega) (by simp)
  subst hA
  rw [show (0 : Int).toNat = 0 from rfl, Go.Proofs.YtkbbliicijnpjaaDoor.Kx.add_nil] at hx0
  have hx1 : w2.cell? ad = some (.int .i64 x) := hx0
  obtain ⟨A', c', hrun, hread⟩ := cut_from (some ad) c (x :: xs) 1 (by omega) (by simp; omega) hc
  have hst0 := st_own r1 (F := fun k => k < w.heap.size + 2) (fun k hk => by simp; omega)
  have hR := Aside0.mk (show ∀ W, Chg (fun k => k < w.heap.size + 2) w2 W → RdV W (.slice A' ((x :: xs).drop (1 : Int).toNat).length c') ((x :: xs).drop (1 : Int).toNat) from fun W hC => by
    obtain ⟨A2, c2, he, _, hr2⟩ := hst0 W hC
    injection he with e1 _ _
    subst e1
    exact hread W hr2)
  clear hst0
  have hd : (x :: xs).drop (1 : Int).toNat = xs := rfl
  rw [hd] at hrun hR
  obtain ⟨n, hn⟩ : ∃ n, (x :: xs).length = n := ⟨_, rfl⟩
  have hn0 : (0 : Int) < (n : Int) := by rw [← hn]; simp
  have hn1 : 0 < n := by rw [← hn]; simp
  rw [hn] at hrun ⊢
  have hk : w2.cell? ⟨w.heap.size + 1, 0, none⟩ = some (.int .i64 0) := bel_cell r2 (by simp)
  have hk1 : w2.cell? ⟨w.heap.size + 1, 1, none⟩ = some (.slice none 0 0) := bel_cell r2 (by simp)
  have hz := fr_bel (b := w.heap.size + 1) (n := 0) r2 (by simpa using heap_alloc_new (w.alloc (.cells #[.pointer (some ⟨p, 0, none⟩)] 56)) (.cells #[.int .i64 0, .slice none 0 0] 36))
  have hz1 := fr_bel (b := w.heap.size + 1) (n := 1) r2 (by simpa using heap_alloc_new (w.alloc (.cells #[.pointer (some ⟨p, 0, none⟩)] 56)) (.cells #[.int .i64 0, .slice none 0 0] 36))
  have hB := below_then hb (by simp; omega) r2
  have hlt : w.heap.size + 1 < w2.heap.size := Nat.lt_of_lt_of_le (by simp) r2.size
  clear r1 r2 ht hread hV hc hx0 hr hd hn
  go_wp2_with fail
  go_region
  all_goals
    go_wp2
    (try simp only [Exit.inBlock, Exit.then])
    refine bodyPost_ret (v := .tuple #[.agg #[.int .i64 x, .slice A' xs.length c'], .bool true]) ?_ rfl ⟨_, rfl, hR.out _ (((Chg.setCell (F := fun k => k < w.heap.size + 2) w2 (p := ⟨w.heap.size + 1, 0, none⟩) (by simp) _).then_ (Chg.setCell (F := fun k => k < w.heap.size + 2) _ (p := ⟨w.heap.size + 1, 1, none⟩) (by simp) _) (fun k hk => .inl hk)).andBelow (below_drew (Below.refl _ _))), ?_⟩
    · rw [Go.results_cell_tmp rfl]
      go_simp
    · exact below_drew (below_setCell (below_setCell hB (p := ⟨w.heap.size + 1, 0, none⟩) (by simp) _) (p := ⟨w.heap.size + 1, 1, none⟩) (by simp) _)
end Go.Proofs.YtkbbliicijnpjaaDoor.Kx
end
