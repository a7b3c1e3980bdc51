/- intern.Table: Id. -/
import Derived.Test.YtmaoadlighjkpaaIb
namespace Go.Proofs.Ytmaoadlighjkpaa.In
open Go.RowKit Go.Proofs.YtmaoadlighjkpaaW.PrintWords Go.Proofs.YtmaoadlighjkpaaW.PrintLast Go.Proofs.YtmaoadlighjkpaaW.PrintMore
open Go.Proofs.Ytmaoadlighjkpaa.Base Go.Proofs.Ytmaoadlighjkpaa.Map Go.Proofs.Ytmaoadlighjkpaa.Ca Go.Proofs.Ytmaoadlighjkpaa.Qu Go.Maps
set_option linter.unusedVariables false

def idOf (tl : List (List Int)) (ns : List Int) : Int := if 8 < ns.length then -1 else (place tl ns : Int)
def idL (tl : List (List Int)) (ns : List Int) : List (List Int) := if 8 < ns.length ∨ ns ∈ tl then tl else tl ++ [ns]
theorem zero3 (w : World) : (zeroValue 3).run Try.prog w = .ok (.int .i64 0) w := by kernel_rfl
theorem tup_size (ns : List Int) : (Try.prog.info? 122).map (·.size) = some (tupC ns).toArray.size := by simp [tupC_len, size122]
theorem tup_all (ns : List Int) : (tupC ns).toArray.all (·.oneCell') = true := all_oneCell_toArray (nums_one (tupN ns))

theorem tup_cells (ns : List Int) : ∃ x0 x1 x2 x3 x4 x5 x6 x7 x8 : Int, (tupC ns).toArray = #[Value.int .i64 x0, .int .i64 x1, .int .i64 x2, .int .i64 x3, .int .i64 x4, .int .i64 x5, .int .i64 x6, .int .i64 x7, .int .i64 x8] := by
  obtain ⟨x0, x1, x2, x3, x4, x5, x6, x7, x8, h⟩ := tup_list ns
  exact ⟨x0, x1, x2, x3, x4, x5, x6, x7, x8, by unfold tupC; rw [h]; rfl⟩

set_option maxHeartbeats 1000000 in
set_option maxRecDepth 100000 in
theorem id_long (p : Nat) (F : Nat → Prop) (sl : List ByteArray) (tl : List (List Int)) (u : Value) (ns : List Int) (w : World) (h : TabAt w F p sl tl) (hu : RdV w u ns) (h8 : 8 < ns.length) :
    Calls Try.prog 27 #[.pointer (some ⟨p, 0, none⟩), u] w fun e w' => e = .returned (.int .i64 (-1)) ∧ TabAt w' F p sl tl ∧ Below w.heap.size w w' := by
  have g1 : decide (ns.length ≤ 8) = false := decide_eq_false (by omega)
  obtain ⟨x0, x1, x2, x3, x4, x5, x6, x7, x8, hx⟩ := tup_cells ns
  have Hx := Aside0.mk hx
  clear hx
  go_enter Try.func27, Try.ntmps27
  go_wp2_with fail
  refine (key_any u ns w hu).mono ?_
  rintro e w1 ⟨rfl, h1⟩
  rw [g1]
  unfold tupV
  rw [Hx.out]
  have ht1 := h.below h1
  go_wp2
  go_ret
  exact ⟨rfl, ht1.below (below_alloc (Below.refl _ _) _), bel_trans h1 (below_alloc (Below.refl _ _) _)⟩

set_option maxHeartbeats 1000000 in
set_option maxRecDepth 100000 in
theorem id_old (p : Nat) (F : Nat → Prop) (sl : List ByteArray) (tl : List (List Int)) (u : Value) (ns : List Int) (w : World) (h : TabAt w F p sl tl) (hu : RdV w u ns) (h8 : tOk ns) (hm : ns ∈ tl) :
    Calls Try.prog 27 #[.pointer (some ⟨p, 0, none⟩), u] w fun e w' => e = .returned (.int .i64 (place tl ns : Int)) ∧ TabAt w' F p sl tl ∧ Below w.heap.size w w' := by
  have g1 : decide (ns.length ≤ 8) = true := decide_eq_true h8.1
  obtain ⟨x0, x1, x2, x3, x4, x5, x6, x7, x8, hx⟩ := tup_cells ns
  have Hx := Aside0.mk hx
  have hkey := tupK_key h8
  unfold tupV at hkey
  rw [hx] at hkey
  have Hkey := Aside0.mk hkey
  clear hx hkey
  go_enter Try.func27, Try.ntmps27
  go_wp2_with fail
  refine (key_any u ns w hu).mono ?_
  rintro e w1 ⟨rfl, h1⟩
  rw [g1]
  unfold tupV
  rw [Hx.out]
  have ht1 := h.below (below_then h1 h1.size (below_alloc (Below.refl w1.heap.size w1) (.cells #[.int .i64 x0, .int .i64 x1, .int .i64 x2, .int .i64 x3, .int .i64 x4, .int .i64 x5, .int .i64 x6, .int .i64 x7, .int .i64 x8] 122)))
  have htt := ht1
  obtain ⟨vt, vs, mw, mi, fw, fi, hb, _, _, _, hM, _, _, hD⟩ := htt
  have c2 := blk_cell hb 2
  have hf := hD ns h8
  rw [if_pos hm] at hf
  have hr : (fi (tupK ns)).getD (.int .i64 0) = .int .i64 (place tl ns : Int) := by rw [hf]; rfl
  have ho : (fi (tupK ns)).isSome = true := by rw [hf]; rfl
  have hrun : ∀ n, (Instr.lookup 67 (.map (some mi)) (.agg #[.int .i64 x0, .int .i64 x1, .int .i64 x2, .int .i64 x3, .int .i64 x4, .int .i64 x5, .int .i64 x6, .int .i64 x7, .int .i64 x8]) true).run Try.prog ((w1.alloc (.cells #[.int .i64 x0, .int .i64 x1, .int .i64 x2, .int .i64 x3, .int .i64 x4, .int .i64 x5, .int .i64 x6, .int .i64 x7, .int .i64 x8] 122)).drewN n) = .ok (.tuple #[.int .i64 (place tl ns : Int), .bool true]) ((w1.alloc (.cells #[.int .i64 x0, .int .i64 x1, .int .i64 x2, .int .i64 x3, .int .i64 x4, .int .i64 x5, .int .i64 x6, .int .i64 x7, .int .i64 x8] 122)).drewN n) := fun n => by
    have := (hM.below (pw_below_drewN (Below.refl _ _) n)).look_ok law122 Try.underlying67 (zero3 _) Hkey.out
    rw [hr, ho] at this
    exact this
  clear hr ho hf hD
  go_wp2_with fail
  go_quiet (fail)
  go_wp2
  go_ret
  exact ⟨rfl, ht1.below (pw_below_drewN (Below.refl _ _) _), bel_trans h1 (pw_below_drewN (below_alloc (Below.refl _ _) _) _)⟩

theorem tab_pushed {w W w2 Wx w3 : World} {F : Nat → Prop} {p mw mi : Nat} {fw fi : Lit → Option Value} {vt vs v3 : Value} {sl : List ByteArray} {tl : List (List Int)} {ns : List Int} {es : Array MapEntry} {ck : Nat}
    (hbw : Below w.heap.size w W) (hb : W.heap[p]? = some (.cells #[.map (some mw), vt, .map (some mi), vs] 70 (0, 0))) (hT : Kd.R Kd.string 9 W 0 F vt sl) (hS : Kd.R kT 122 W 0 F vs tl)
    (hMw : MapP Try.prog 9 W mw fw sl.length) (hmi : W.heap[mi]? = some (.map es ck)) (hF : F p ∧ F mw ∧ F mi ∧ mw ≠ mi) (hDw : Dict sOk strLit fw sl) (hD : Dict tOk tupK fi tl)
    (hC2 : Chg (fun k => k = mi) W w2) (hM2 : MapP Try.prog 122 w2 mi (upd fi (tupK ns) (some (.int .i64 (tl.length : Int)))) (tl.length + 1)) (hbx : Below w2.heap.size w2 Wx)
    (hR3 : Kd.R kT 122 w3 0 (ext F Wx w3) v3 (tl ++ [ns])) (hC3 : Chg F Wx w3) (hg3 : Wx.grownBy w3 vs.ownBlock) (hok : tOk ns) (hn : ns ∉ tl) :
    TabAt (w3.setCell ⟨p, 3, none⟩ v3) (ext F w (w3.setCell ⟨p, 3, none⟩ v3)) p sl (tl ++ [ns]) ∧ Chg F w (w3.setCell ⟨p, 3, none⟩ v3) := by
  have np : ¬ p = mi := fun e => by rw [e, hmi] at hb; cases hb
  have hb2 := hC2.blk hb np
  have hbxx := Qu.blk_below hb2 hbx
  have hSx := Kd.R_below (R_off hS hC2 hmi) hbx
  have hTx := Kd.R_below (R_off hT hC2 hmi) hbx
  have hb3 := blk_grown hbxx hg3 (Kd.R_ne hSx hbxx (by decide))
  have hT3 := Kd.R_over hTx hSx (fun q hq => by rcases List.mem_cons.1 hq with rfl | hq; decide; cases hq) hg3
  have hT4 := Kd.R_set hT3 hb3 (fun q hq => by rcases List.mem_cons.1 hq with rfl | hq; decide; cases hq) 3 v3
  have hR4 := Kd.R_set hR3 hb3 (fun q hq => by rcases List.mem_cons.1 hq with rfl | hq; decide; cases hq) 3 v3
  have hsz : (w3.setCell ⟨p, 3, none⟩ v3).heap.size = w3.heap.size := by simp [World.setCell]
  have offp : ∀ m n k f, MapP Try.prog k w3 m f n → MapP Try.prog k (w3.setCell ⟨p, 3, none⟩ v3) m f n := fun m n k f h => by
    obtain ⟨es', c', hm'⟩ := h.at_block
    refine h.move (Below.heap_setCell w3 ⟨p, 3, none⟩ v3 m (fun e => ?_))
    have e' : m = p := e
    rw [e', hb3] at hm'; cases hm'
  have hMw4 := offp _ _ _ _ (MapP_off ((hMw.chg hC2 hF.2.2.2).below hbx) hSx hg3)
  have hMi4 := offp _ _ _ _ (MapP_off (hM2.below hbx) hSx hg3)
  have hC : Chg F w (w3.setCell ⟨p, 3, none⟩ v3) := by
    have c1 : Chg F w W := Chg.of_below hbw F
    have c2 := c1.then_ (hC2.mono (F' := F) (fun k _ hk => hk ▸ hF.2.2.1)) (fun k hk => .inl hk)
    have c3 := (c2.andBelow hbx).then_ hC3 (fun k hk => .inl hk)
    exact c3.then_ (Chg.setCell w3 (p := ⟨p, 3, none⟩) hF.1 v3) (fun k hk => .inl hk)
  refine ⟨⟨vt, v3, mw, mi, fw, _, blk_set hb3 3 v3, Kd.R_mono hT4 (fun k hk => .inl hk), Kd.R_mono hR4 (fun k hk => ?_), hMw4, by simpa using hMi4, ⟨.inl hF.1, .inl hF.2.1, .inl hF.2.2.1, hF.2.2.2⟩, hDw, hD.snoc (fun a b => tupK_inj) hok hn⟩, hC⟩
  rcases hk with hk | hk
  · exact .inl hk
  · exact .inr ⟨Nat.le_trans hbw.size (Nat.le_trans hC2.size (Nat.le_trans hbx.size hk.1)), hsz ▸ hk.2⟩

set_option maxHeartbeats 2000000 in
set_option maxRecDepth 100000 in
theorem id_new (p : Nat) (F : Nat → Prop) (sl : List ByteArray) (tl : List (List Int)) (u : Value) (ns : List Int) (w : World) (h : TabAt w F p sl tl) (hu : RdV w u ns) (h8 : tOk ns) (hm : ns ∉ tl) (hlen : tl.length ≤ 1000000) :
    Calls Try.prog 27 #[.pointer (some ⟨p, 0, none⟩), u] w fun e w' => e = .returned (.int .i64 (tl.length : Int)) ∧ TabAt w' (ext F w w') p sl (tl ++ [ns]) ∧ Chg F w w' := by
  have g1 : decide (ns.length ≤ 8) = true := decide_eq_true h8.1
  obtain ⟨x0, x1, x2, x3, x4, x5, x6, x7, x8, hx⟩ := tup_cells ns
  have Hx := Aside0.mk hx
  have hkey := tupK_key h8
  unfold tupV at hkey
  rw [hx] at hkey
  have Hkey := Aside0.mk hkey
  clear hx hkey
  go_enter Try.func27, Try.ntmps27
  go_wp2_with fail
  refine (key_any u ns w hu).mono ?_
  rintro e w1 ⟨rfl, h1⟩
  rw [g1]
  unfold tupV
  rw [Hx.out]
  have ht1 := h.below (below_then h1 h1.size (below_alloc (Below.refl w1.heap.size w1) (.cells #[.int .i64 x0, .int .i64 x1, .int .i64 x2, .int .i64 x3, .int .i64 x4, .int .i64 x5, .int .i64 x6, .int .i64 x7, .int .i64 x8] 122)))
  have htt := ht1
  obtain ⟨vt, vs, mw, mi, fw, fi, hb, hT, hS, hMw, hM, hFF, hDw, hD⟩ := htt
  obtain ⟨A, c, rfl, _⟩ := Kd.R_reads hS
  have c2 := blk_cell hb 2
  have hf := hD ns h8
  rw [if_neg hm] at hf
  have hr : (fi (tupK ns)).getD (.int .i64 0) = .int .i64 0 := by rw [hf]; rfl
  have ho : (fi (tupK ns)).isSome = false := by rw [hf]; rfl
  have hrun : ∀ n, (Instr.lookup 67 (.map (some mi)) (.agg #[.int .i64 x0, .int .i64 x1, .int .i64 x2, .int .i64 x3, .int .i64 x4, .int .i64 x5, .int .i64 x6, .int .i64 x7, .int .i64 x8]) true).run Try.prog ((w1.alloc (.cells #[.int .i64 x0, .int .i64 x1, .int .i64 x2, .int .i64 x3, .int .i64 x4, .int .i64 x5, .int .i64 x6, .int .i64 x7, .int .i64 x8] 122)).drewN n) = .ok (.tuple #[.int .i64 0, .bool false]) ((w1.alloc (.cells #[.int .i64 x0, .int .i64 x1, .int .i64 x2, .int .i64 x3, .int .i64 x4, .int .i64 x5, .int .i64 x6, .int .i64 x7, .int .i64 x8] 122)).drewN n) := fun n => by
    have := (hM.below (pw_below_drewN (Below.refl _ _) n)).look_ok law122 Try.underlying67 (zero3 _) Hkey.out
    rw [hr, ho] at this
    exact this
  have Ho := Aside0.mk ho
  have HD := Aside0.mk hD
  have HDw := Aside0.mk hDw
  clear hr ho hf hD hDw
  go_wp2_with fail
  go_quiet (fail)
  have hbw : Below w1.heap.size w1 ((w1.alloc (.cells #[.int .i64 x0, .int .i64 x1, .int .i64 x2, .int .i64 x3, .int .i64 x4, .int .i64 x5, .int .i64 x6, .int .i64 x7, .int .i64 x8] 122)).drewN nq) := pw_below_drewN (below_alloc (Below.refl _ _) _) _
  have hcells : (fun W => W.cell? ⟨w1.heap.size, 0, none⟩ = some (.int .i64 x0) ∧ W.cell? ⟨w1.heap.size, 1, none⟩ = some (.int .i64 x1) ∧ W.cell? ⟨w1.heap.size, 2, none⟩ = some (.int .i64 x2) ∧ W.cell? ⟨w1.heap.size, 3, none⟩ = some (.int .i64 x3) ∧ W.cell? ⟨w1.heap.size, 4, none⟩ = some (.int .i64 x4) ∧ W.cell? ⟨w1.heap.size, 5, none⟩ = some (.int .i64 x5) ∧ W.cell? ⟨w1.heap.size, 6, none⟩ = some (.int .i64 x6) ∧ W.cell? ⟨w1.heap.size, 7, none⟩ = some (.int .i64 x7) ∧ W.cell? ⟨w1.heap.size, 8, none⟩ = some (.int .i64 x8)) ((w1.alloc (.cells #[.int .i64 x0, .int .i64 x1, .int .i64 x2, .int .i64 x3, .int .i64 x4, .int .i64 x5, .int .i64 x6, .int .i64 x7, .int .i64 x8] 122)).drewN nq) := by simp
  have hrest := pw_below_drewN (Below.refl (w1.alloc (.cells #[.int .i64 x0, .int .i64 x1, .int .i64 x2, .int .i64 x3, .int .i64 x4, .int .i64 x5, .int .i64 x6, .int .i64 x7, .int .i64 x8] 122)).heap.size (w1.alloc (.cells #[.int .i64 x0, .int .i64 x1, .int .i64 x2, .int .i64 x3, .int .i64 x4, .int .i64 x5, .int .i64 x6, .int .i64 x7, .int .i64 x8] 122))) nq
  have hb := Qu.blk_below hb hrest
  have hT := Kd.R_below hT hrest
  have hS := Kd.R_below hS hrest
  have hMw := hMw.below hrest
  have hM := hM.below hrest
  have hsz : w1.heap.size < ((w1.alloc (.cells #[.int .i64 x0, .int .i64 x1, .int .i64 x2, .int .i64 x3, .int .i64 x4, .int .i64 x5, .int .i64 x6, .int .i64 x7, .int .i64 x8] 122)).drewN nq).heap.size := by simp
  clear hrun c2 ht1 hrest
  have HBW := Aside0.mk (below_then h1 h1.size hbw)
  generalize (w1.alloc (.cells #[.int .i64 x0, .int .i64 x1, .int .i64 x2, .int .i64 x3, .int .i64 x4, .int .i64 x5, .int .i64 x6, .int .i64 x7, .int .i64 x8] 122)).drewN nq = W at *
  obtain ⟨k0, k1, k2, k3, k4, k5, k6, k7, k8⟩ := hcells
  have c2 := blk_cell hb 2
  have c3 := blk_cell hb 3
  have Hb := Aside0.mk hb
  have HT := Aside0.mk hT
  have HS := Aside0.mk hS
  have HMw := Aside0.mk hMw
  have HM := Aside0.mk hM
  clear hb hT hS hMw hM
  go_wp2_with fail
  have hCW := Chg.refl (fun k => k = mi) W
  obtain ⟨es, ck, hmi⟩ := HM.out.at_block
  have np : ¬ p = mi := fun e => by have := Hb.out; rw [e, hmi] at this; cases this
  have nb : ¬ w1.heap.size = mi := fun e => by unfold World.cell? at k0; rw [e] at k0; simp [hmi] at k0
  have Hmi := Aside0.mk hmi
  clear hmi
  obtain ⟨w2, hst, hM2, hg2⟩ := (HM.out.below (below_drew (Below.refl W.heap.size W))).store (val := .int .i64 (tl.length : Int)) law122 Try.underlying67 (by unfold maxLen; omega) Hkey.out
  rw [Ho.out] at hM2
  have HM2 := Aside0.mk hM2
  have hC2 : Chg (fun k => k = mi) W w2 := (chg_drew (Chg.refl _ W)).then_ (Chg.of_grown hg2 (fun k hk => by cases hk; rfl)) (fun k hk => .inl hk)
  clear hM2 hg2
  go_region_held3 (fun W' => W'.cell? ⟨p, 2, none⟩ = some (.map (some mi)) ∧ W'.cell? ⟨w1.heap.size, 0, none⟩ = some (.int .i64 x0) ∧ W'.cell? ⟨w1.heap.size, 1, none⟩ = some (.int .i64 x1) ∧ W'.cell? ⟨w1.heap.size, 2, none⟩ = some (.int .i64 x2) ∧ W'.cell? ⟨w1.heap.size, 3, none⟩ = some (.int .i64 x3) ∧ W'.cell? ⟨w1.heap.size, 4, none⟩ = some (.int .i64 x4) ∧ W'.cell? ⟨w1.heap.size, 5, none⟩ = some (.int .i64 x5) ∧ W'.cell? ⟨w1.heap.size, 6, none⟩ = some (.int .i64 x6) ∧ W'.cell? ⟨w1.heap.size, 7, none⟩ = some (.int .i64 x7) ∧ W'.cell? ⟨w1.heap.size, 8, none⟩ = some (.int .i64 x8) ∧ Chg (fun k => k = mi) W W')
   (refine ⟨chg_cell (F := fun k => k = mi) (w := W) ?_ np c2, chg_cell (F := fun k => k = mi) (w := W) ?_ nb k0, chg_cell (F := fun k => k = mi) (w := W) ?_ nb k1, chg_cell (F := fun k => k = mi) (w := W) ?_ nb k2, chg_cell (F := fun k => k = mi) (w := W) ?_ nb k3, chg_cell (F := fun k => k = mi) (w := W) ?_ nb k4, chg_cell (F := fun k => k = mi) (w := W) ?_ nb k5, chg_cell (F := fun k => k = mi) (w := W) ?_ nb k6, chg_cell (F := fun k => k = mi) (w := W) ?_ nb k7, chg_cell (F := fun k => k = mi) (w := W) ?_ nb k8, ?_⟩ <;> simp [*])
   (first | (fail))
  rename_i hheld
  clear c2 k0 k1 k2 k3 k4 k5 k6 k7 k8
  obtain ⟨_, k0, k1, k2, k3, k4, k5, k6, k7, k8, _⟩ := hheld
  have hb2 := hC2.blk Hb.out np
  have HS2 := Aside0.mk (R_off HS.out hC2 Hmi.out)
  have HT2 := Aside0.mk (R_off HT.out hC2 Hmi.out)
  have c3 := blk_cell hb2 3
  have z3 := blk_frozen hb2 3
  have Hb2 := Aside0.mk hb2
  have HC2 := Aside0.mk hC2
  clear hC2 hb2 hCW hst
  go_wp2_with fail
  have hbx : Below w2.heap.size w2 ((w2.alloc (.cells #[.int .i64 x0, .int .i64 x1, .int .i64 x2, .int .i64 x3, .int .i64 x4, .int .i64 x5, .int .i64 x6, .int .i64 x7, .int .i64 x8] 122)).drew) := by simp [Below.refl]
  have Hbx := Aside0.mk hbx
  have c3a : (w2.alloc (.cells #[.int .i64 x0, .int .i64 x1, .int .i64 x2, .int .i64 x3, .int .i64 x4, .int .i64 x5, .int .i64 x6, .int .i64 x7, .int .i64 x8] 122)).cell? ⟨p, 3, none⟩ = some (.slice A tl.length c) := bel_cell (below_alloc (Below.refl _ _) _) c3
  clear hbx
  go_region_law (refine tupApp_step (by rfl) (.tmp 42) (.tmp 44) (by rfl) (.slice A tl.length c) F tl ns w2.heap.size #[.int .i64 x0, .int .i64 x1, .int .i64 x2, .int .i64 x3, .int .i64 x4, .int .i64 x5, .int .i64 x6, .int .i64 x7, .int .i64 x8] (by rfl) (by rfl) (Kd.R_below HS2.out Hbx.out) (heap_alloc_new _ _) Hx.out h8 hlen ?_; intro v3 w3 hR3 hC3 hg3; obtain ⟨A3, c3', hv3, _, _⟩ := Kd.R_reads hR3; obtain ⟨n3, hn3⟩ : ∃ n, (tl ++ [ns]).length = n := ⟨_, rfl⟩; rw [hn3] at hv3; subst hv3; have hbb := Qu.blk_below Hb2.out Hbx.out; have hne := Kd.R_ne (g := p) (Kd.R_below HS2.out Hbx.out) hbb (by decide); have hb3 := Aside0.mk (blk_grown hbb hg3 hne); have z3' : w3.frozen? ⟨p, 3, none⟩ = false := blk_frozen hb3.out 3; have e3 : w3.cell? ⟨p, 3, none⟩ = some (.slice A tl.length c) := blk_cell hb3.out 3; have HR3 := Aside0.mk hR3; have HC3 := Aside0.mk hC3; have Hg3 := Aside0.mk hg3; clear hR3 hC3 hg3 hbb hne hn3)
  all_goals (go_wp2; go_ret; exact ⟨rfl, tab_pushed HBW.out Hb.out HT.out HS.out HMw.out Hmi.out hFF HDw.out HD.out HC2.out HM2.out Hbx.out HR3.out HC3.out Hg3.out h8 hm⟩)
end Go.Proofs.Ytmaoadlighjkpaa.In
