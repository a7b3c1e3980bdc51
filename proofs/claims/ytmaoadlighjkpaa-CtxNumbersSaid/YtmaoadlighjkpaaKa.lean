/- ctx.contexts, ctx.objects: Ctx, Context, Obj, Object, Objects, over the tables of layer 4. -/
import Derived.Test.YtmaoadlighjkpaaIl
import Derived.Test.YtmaoadlighjkpaaCc
namespace Go.Proofs.Ytmaoadlighjkpaa.Kx
open Go.RowKit Go.Proofs.YtmaoadlighjkpaaW.PrintWords Go.Proofs.YtmaoadlighjkpaaW.PrintLast Go.Proofs.YtmaoadlighjkpaaW.PrintMore
open Go.Proofs.Ytmaoadlighjkpaa.Base Go.Proofs.Ytmaoadlighjkpaa.Map Go.Proofs.Ytmaoadlighjkpaa.Ca Go.Proofs.Ytmaoadlighjkpaa.Qu Go.Proofs.Ytmaoadlighjkpaa.In Go.Maps
set_option linter.unusedVariables false

/-- a context's number -/
def ctxId (tl : List (List Int)) (ns : List Int) : Int := if 3 < ns.length then -1 else idOf tl ns
def ctxT (tl : List (List Int)) (ns : List Int) : List (List Int) := if 3 < ns.length then tl else idL tl ns

set_option maxHeartbeats 1000000 in
set_option maxRecDepth 100000 in
theorem ctx_any (p : Nat) (F : Nat → Prop) (sl : List ByteArray) (tl : List (List Int)) (u : Value) (ns : List Int) (w : World) (h : TabAt w F p sl tl) (hF : ∀ k, F k → k < w.heap.size) (hu : RdV w u ns) (hw : ∀ x ∈ ns, (Lit.int .i64 x).wf = true) (hlen : tl.length ≤ 1000000) :
    Calls Try.prog 57 #[.agg #[.pointer (some ⟨p, 0, none⟩)], u] w fun e w' => e = .returned (.int .i64 (ctxId tl ns)) ∧ TabAt w' (ext F w w') p sl (ctxT tl ns) ∧ Chg F w w' := by
  have hu0 := hu
  obtain ⟨A, c, rfl, hc, hr⟩ := hu
  have hb := below_alloc (Below.refl w.heap.size w) (.cells #[.pointer (some ⟨p, 0, none⟩)] 93)
  have ht := h.below hb
  have hu1 := hu0.below hb
  by_cases h3 : (3 : Int) < ns.length
  · have e1 : ctxId tl ns = -1 := by unfold ctxId; rw [if_pos (by omega)]
    have e2 : ctxT tl ns = tl := by unfold ctxT; rw [if_pos (by omega)]
    rw [e1, e2]
    go_enter Try.func57, Try.ntmps57
    go_wp2
    go_ret
    exact ⟨rfl, ht.mono (fun k hk => .inl hk), Chg.alloc w _ F⟩
  · have e1 : ctxId tl ns = idOf tl ns := by unfold ctxId; rw [if_neg (by omega)]
    have e2 : ctxT tl ns = idL tl ns := by unfold ctxT; rw [if_neg (by omega)]
    rw [e1, e2]
    have Hc := Aside0.mk hc
    clear hc
    go_enter Try.func57, Try.ntmps57
    go_wp2_with fail
    refine (id_any p F sl tl _ ns _ ht hu1 hw hlen).mono ?_
    rintro e w2 ⟨rfl, r1, r2⟩
    go_wp2
    go_ret
    refine ⟨rfl, r1.mono (fun k hk => hk.elim .inl (fun h => .inr ⟨by have := h.1; simp at this; omega, h.2⟩)), (Chg.alloc w _ F).then_ r2 (fun k hk => .inl hk)⟩

set_option maxHeartbeats 1000000 in
set_option maxRecDepth 100000 in
theorem context_any (p : Nat) (F : Nat → Prop) (sl : List ByteArray) (tl : List (List Int)) (w : World) (h : TabAt w F p sl tl) (id : Int) :
    Calls Try.prog 62 #[.agg #[.pointer (some ⟨p, 0, none⟩)], .int .i64 id] w fun e w' => ∃ v, e = .returned v ∧ OwI w' w.heap.size v (tupleOf tl id) ∧ Below w.heap.size w w' := by
  have hb := below_alloc (Below.refl w.heap.size w) (.cells #[.pointer (some ⟨p, 0, none⟩)] 93)
  have ht := h.below hb
  go_enter Try.func62, Try.ntmps62
  go_wp2_with fail
  refine (tuple_tab p F sl tl _ ht id).mono ?_
  rintro e w2 ⟨v, rfl, r1, r2⟩
  go_wp2
  go_ret
  exact ⟨_, rfl, r1.lower (by simp), below_then hb (by simp) r2⟩

set_option maxHeartbeats 1000000 in
set_option maxRecDepth 100000 in
theorem objects_any (p : Nat) (F : Nat → Prop) (sl : List ByteArray) (tl : List (List Int)) (w : World) (h : TabAt w F p sl tl) :
    Calls Try.prog 59 #[.agg #[.pointer (some ⟨p, 0, none⟩)]] w fun e w' => e = .returned (.int .i64 (tl.length : Int)) ∧ Below w.heap.size w w' := by
  have hb := below_alloc (Below.refl w.heap.size w) (.cells #[.pointer (some ⟨p, 0, none⟩)] 94)
  have ht := h.below hb
  go_enter Try.func59, Try.ntmps59
  go_wp2_with fail
  refine (len_tab p F sl tl _ ht).mono ?_
  rintro e w2 ⟨rfl, rfl⟩
  go_wp2
  go_ret
  exact ⟨rfl, hb⟩

def objId (tl : List (List Int)) (site : Int) (ns : List Int) : Int := if 3 < ns.length then -1 else idOf tl (site :: ns)
def objT (tl : List (List Int)) (site : Int) (ns : List Int) : List (List Int) := if 3 < ns.length then tl else idL tl (site :: ns)

set_option maxHeartbeats 2000000 in
set_option maxRecDepth 100000 in
theorem obj_any (p : Nat) (F : Nat → Prop) (sl : List ByteArray) (tl : List (List Int)) (site : Int) (u : Value) (ns : List Int) (w : World) (h : TabAt w F p sl tl) (hF : ∀ k, F k → k < w.heap.size) (hu : RdV w u ns) (hs : (Lit.int .i64 site).wf = true) (hw : ∀ x ∈ ns, (Lit.int .i64 x).wf = true) (hlen : tl.length ≤ 1000000) :
    Calls Try.prog 56 #[.agg #[.pointer (some ⟨p, 0, none⟩)], .agg #[.int .i64 site, u]] w fun e w' => e = .returned (.int .i64 (objId tl site ns)) ∧ TabAt w' (ext F w w') p sl (objT tl site ns) ∧ Chg F w w' := by
  have hu0 := hu
  obtain ⟨A, c, rfl, hc, hr⟩ := hu
  have hb : Below w.heap.size w ((w.alloc (.cells #[.pointer (some ⟨p, 0, none⟩)] 94)).alloc (.cells #[.int .i64 site, .slice A ns.length c] 26)) := below_alloc (below_alloc (Below.refl _ _) _) _
  have ht := h.below hb
  have hu1 := hu0.below hb
  by_cases h3 : (3 : Int) < ns.length
  · have e1 : objId tl site ns = -1 := by unfold objId; rw [if_pos (by omega)]
    have e2 : objT tl site ns = tl := by unfold objT; rw [if_pos (by omega)]
    rw [e1, e2]
    go_enter Try.func56, Try.ntmps56
    go_wp2
    go_ret
    exact ⟨rfl, ht.mono (fun k hk => .inl hk), Chg.of_below hb F⟩
  · have e1 : objId tl site ns = idOf tl (site :: ns) := by unfold objId; rw [if_neg (by omega)]
    have e2 : objT tl site ns = idL tl (site :: ns) := by unfold objT; rw [if_neg (by omega)]
    rw [e1, e2]
    have Hc := Aside0.mk hc
    have hwf : ∀ x ∈ site :: ns, (Lit.int .i64 x).wf = true := fun x hx => by
      rcases List.mem_cons.1 hx with rfl | hx
      · exact hs
      · exact hw x hx
    have Hwf := Aside0.mk hwf
    clear hc hs hw hwf
    go_enter Try.func56, Try.ntmps56
    go_wp2_with fail
    have hsz : w.heap.size + 2 ≤ ((w.alloc (.cells #[.pointer (some ⟨p, 0, none⟩)] 94)).alloc (.cells #[.int .i64 site, .slice A ns.length c] 26)).heap.size := by simp
    have hk0 : ((w.alloc (.cells #[.pointer (some ⟨p, 0, none⟩)] 94)).alloc (.cells #[.int .i64 site, .slice A ns.length c] 26)).cell? ⟨w.heap.size, 0, none⟩ = some (.pointer (some ⟨p, 0, none⟩)) := by simp
    have hk1 : ((w.alloc (.cells #[.pointer (some ⟨p, 0, none⟩)] 94)).alloc (.cells #[.int .i64 site, .slice A ns.length c] 26)).cell? ⟨w.heap.size + 1, 0, none⟩ = some (.int .i64 site) := by simp
    have hk2 : ((w.alloc (.cells #[.pointer (some ⟨p, 0, none⟩)] 94)).alloc (.cells #[.int .i64 site, .slice A ns.length c] 26)).cell? ⟨w.heap.size + 1, 1, none⟩ = some (.slice A ns.length c) := by simp
    generalize (w.alloc (.cells #[.pointer (some ⟨p, 0, none⟩)] 94)).alloc (.cells #[.int .i64 site, .slice A ns.length c] 26) = w1 at *
    refine wp_region_held_drew (S := (fun W => W.cell? ⟨w.heap.size, 0, none⟩ = some (.pointer (some ⟨p, 0, none⟩)) ∧ W.cell? ⟨w.heap.size + 1, 0, none⟩ = some (.int .i64 site) ∧ W.cell? ⟨w.heap.size + 1, 1, none⟩ = some (.slice A ns.length c))) (by kernel_rfl) ?_ (fun hHeld => ?_)
    · exact ⟨bel_cell (wb := w1) (by simp [*, Below.refl]) hk0, bel_cell (wb := w1) (by simp [*, Below.refl]) hk1, bel_cell (wb := w1) (by simp [*, Below.refl]) hk2⟩
    refine wpAnyH_take (i := 0) (oi := _) (v := ?_) (List.getElem?_toArray.trans rfl) (by kernel_rfl) (by kernel_rfl) (by kernel_rfl) (fun _ _ _ h => h) (Or.inl ⟨by rfl, ?_⟩) (by assumption) ?_
    rotate_left
    · intro w hSw; (try dsimp only at hSw); go_simp <;> with_reducible rfl
    try simp only [Act.put, List.setIfInBounds_toArray, List.set_cons_zero, List.set_cons_succ]
    refine wpAnyH_take (i := 1) (oi := _) (v := ?_) (List.getElem?_toArray.trans rfl) (by kernel_rfl) (by kernel_rfl) (by kernel_rfl) (fun _ _ _ h => h) (Or.inl ⟨by rfl, ?_⟩) (by assumption) ?_
    rotate_left
    · intro w hSw; (try dsimp only at hSw); go_simp <;> with_reducible rfl
    try simp only [Act.put, List.setIfInBounds_toArray, List.set_cons_zero, List.set_cons_succ]
    refine wpAnyH_take (i := 2) (oi := _) (v := ?_) (List.getElem?_toArray.trans rfl) (by kernel_rfl) (by kernel_rfl) (by kernel_rfl) (fun _ _ _ h => h) (Or.inl ⟨by rfl, ?_⟩) (by assumption) ?_
    rotate_left
    · intro w hSw; (try dsimp only at hSw); go_simp <;> with_reducible rfl
    try simp only [Act.put, List.setIfInBounds_toArray, List.set_cons_zero, List.set_cons_succ]
    refine wpAnyH_take (i := 3) (oi := _) (v := ?_) (List.getElem?_toArray.trans rfl) (by kernel_rfl) (by kernel_rfl) (by kernel_rfl) (fun _ _ _ h => h) (Or.inl ⟨by rfl, ?_⟩) (by assumption) ?_
    rotate_left
    · intro w hSw; (try dsimp only at hSw); go_simp <;> with_reducible rfl
    try simp only [Act.put, List.setIfInBounds_toArray, List.set_cons_zero, List.set_cons_succ]
    refine wpAnyH_take (i := 5) (oi := _) (v := ?_) (List.getElem?_toArray.trans rfl) (by kernel_rfl) (by kernel_rfl) (by kernel_rfl) (fun _ _ _ h => h) (Or.inl ⟨by rfl, ?_⟩) (by assumption) ?_
    rotate_left
    · intro w hSw; (try dsimp only at hSw); go_simp <;> with_reducible rfl
    try simp only [Act.put, List.setIfInBounds_toArray, List.set_cons_zero, List.set_cons_succ]
    refine wpAnyH_take (i := 6) (oi := _) (v := ?_) (List.getElem?_toArray.trans rfl) (by kernel_rfl) (by kernel_rfl) (by kernel_rfl) (fun _ _ _ h => h) (Or.inl ⟨by rfl, ?_⟩) (by assumption) ?_
    rotate_left
    · intro w hSw; (try dsimp only at hSw); go_simp <;> with_reducible rfl
    try simp only [Act.put, List.setIfInBounds_toArray, List.set_cons_zero, List.set_cons_succ]
    refine wpAnyH_ready (rs := [4]) (by kernel_rfl) (by simp) ?_
    refine AllReadyH.cons (o := _) (List.getElem?_toArray.trans rfl) (fun K hK => ?_) AllReadyH.nil
    go_simp
    refine hK.out _ _ ?_ (fun hHeld => ?_)
    · exact ⟨bel_cell (wb := w1) (by simp [*, Below.refl]) hk0, bel_cell (wb := w1) (by simp [*, Below.refl]) hk1, bel_cell (wb := w1) (by simp [*, Below.refl]) hk2⟩
    clear hK K
    try simp only [Act.put, List.setIfInBounds_toArray, List.set_cons_zero, List.set_cons_succ]
    have HO : OwI ((w1.alloc (.cells #[.int .i64 site] 3)).drew) w1.heap.size (.slice (some ⟨w1.heap.size, 0, none⟩) 1 1) [site] := (OwI.lit w1 [site] (by simp)).drew
    have HB : Below w1.heap.size w1 ((w1.alloc (.cells #[.int .i64 site] 3)).drew) := by simp [Below.refl]
    refine wpAnyH_ready (rs := [7]) (by kernel_rfl) (by simp) ?_
    refine AllReadyH.cons (o := _) (List.getElem?_toArray.trans rfl) (fun K hK => ?_) AllReadyH.nil
    refine app_row_step (w0 := w1) w1.heap.size (by rfl) (.tmp 13) (.tmp 15) (by rfl) _ _ [site] ns (by rfl) (by rfl) HO (hu1.below HB) HB HB.size (by simp; omega) ?_
    intro v3 w3 H3 HB3 hg3 hat3
    refine hK.out _ _ ?_ (fun hHeld => ?_)
    · exact ⟨bel_cell HB3 hk0, bel_cell HB3 hk1, bel_cell HB3 hk2⟩
    clear hK K hg3 hat3
    try simp only [Act.put, List.setIfInBounds_toArray, List.set_cons_zero, List.set_cons_succ]
    refine wpAnyH_ready (rs := [8]) (by kernel_rfl) (by simp) ?_
    refine AllReadyH.cons (o := _) (List.getElem?_toArray.trans rfl) (fun K hK => ?_) AllReadyH.nil
    go_simp
    refine (id_any p F sl tl _ (site :: ns) _ (ht.below HB3) H3.toV Hwf.out hlen).mono ?_
    rintro e w4 ⟨rfl, r1, r2⟩
    go_wp2_with fail
    refine hK.out _ _ ?_ (fun hHeld => ?_)
    · exact ⟨chg_cell r2 (fun hf => by have := hF _ hf; omega) (bel_cell HB3 hk0), chg_cell r2 (fun hf => by have := hF _ hf; omega) (bel_cell HB3 hk1), chg_cell r2 (fun hf => by have := hF _ hf; omega) (bel_cell HB3 hk2)⟩
    clear hK K
    try simp only [Act.put, List.setIfInBounds_toArray, List.set_cons_zero, List.set_cons_succ]
    refine wpAnyH_take (i := 9) (oi := _) (v := ?_) (List.getElem?_toArray.trans rfl) (by kernel_rfl) (by kernel_rfl) (by kernel_rfl) (fun _ _ _ h => h) (Or.inl ⟨by rfl, ?_⟩) (by assumption) ?_
    rotate_left
    · intro w hSw; (try dsimp only at hSw); go_simp <;> with_reducible rfl
    try simp only [Act.put, List.setIfInBounds_toArray, List.set_cons_zero, List.set_cons_succ]
    refine wpAnyH_done (by kernel_rfl) ?_ _
    go_wp2
    go_ret
    exact ⟨rfl, r1.mono (fun k hk => hk.elim .inl (fun h => .inr ⟨by have := h.1; have := HB3.size; omega, h.2⟩)), ((Chg.of_below hb F).then_ (Chg.of_below HB3 F) (fun k hk => .inl hk)).then_ r2 (fun k hk => .inl hk)⟩
end Go.Proofs.Ytmaoadlighjkpaa.Kx
