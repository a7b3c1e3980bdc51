/- ints.Set: Add. -/
import Derived.Test.YtfgonclaiphoeaaGreatDoorSh
namespace Go.Proofs.YtfgonclaiphoeaaGreatDoor.Se
set_option linter.unusedVariables false
open Go.RowKit Go.Proofs.YtfgonclaiphoeaaGreatDoorW.PrintWords Go.Proofs.YtfgonclaiphoeaaGreatDoorW.PrintLast Go.Proofs.YtfgonclaiphoeaaGreatDoorW.PrintMore
open Go.Proofs.YtfgonclaiphoeaaGreatDoor.Base Go.Proofs.YtfgonclaiphoeaaGreatDoor.Map Go.Proofs.YtfgonclaiphoeaaGreatDoor.Sl Go.Proofs.YtfgonclaiphoeaaGreatDoor.Ow

set_option maxHeartbeats 1000000 in
theorem RowsL.bound {w : World} {F : Nat → Prop} {p : Nat} {l : List Int} (h : RowsL w F p l) : RowsL w (fun k => F k ∧ k < w.heap.size) p l := by
  obtain ⟨ws, h1, h2⟩ := h; exact ⟨ws, h1.bound, h2⟩
set_option maxHeartbeats 1000000 in
theorem add_out (p : Nat) (x : Int) (w : World) (hx : ¬ okN x) :
    Calls Tryz.prog 29 #[.pointer (some ⟨p, 0, none⟩), .int .i64 x] w fun e w' => e = .returned (.bool false) ∧ w = w' := by
  by_cases h0 : x < 0
  · go_enter Tryz.func29, Tryz.ntmps29
    go_wp2
    go_ret
    exact ⟨rfl, rfl⟩
  · have h1 : 1048576 ≤ x := by unfold okN at hx; omega
    have h2 : 0 ≤ x := by omega
    clear hx h0
    go_enter Tryz.func29, Tryz.ntmps29
    go_wp2
    go_ret
    exact ⟨rfl, rfl⟩
set_option maxHeartbeats 4000000 in
set_option maxRecDepth 100000 in
theorem add_rows (p : Nat) (F : Nat → Prop) (l : List Int) (x : Int) (w : World) (h : RowsL w F p l) (hx : okN x) (hl : l.length ≤ 1048576) :
    Calls Tryz.prog 29 #[.pointer (some ⟨p, 0, none⟩), .int .i64 x] w fun e w' => e = .returned (.bool (!decide (x ∈ l))) ∧ RowsL w' (ext F w w') p (ins l x) ∧ Chg F w w' := by
  obtain ⟨x0, x1⟩ := hx
  have H := Aside0.mk h
  have Hx := Aside0.mk (And.intro x0 x1)
  have Hl := Aside0.mk hl
  obtain ⟨ws, ⟨g, cap, hb, -, -⟩, -⟩ := h
  have Hb := Aside0.mk hb
  obtain ⟨b, hb0⟩ : ∃ b : Bool, (!decide (x ∈ l)) = b := ⟨_, rfl⟩
  rw [hb0]
  have Hb0 := Aside0.mk hb0
  clear hb hl hb0
  go_enter Tryz.func29, Tryz.ntmps29
  go_wp2_with fail
  refine (many_rows p _ _ _ _ _ w Hb.out).mono ?_
  rintro e w' ⟨rfl, rfl⟩
  go_wp2_with fail
  refine (markL_any p F l x w H.out Hx.out Hl.out).mono ?_
  rintro e w' ⟨rfl, r1, r2⟩
  rw [Hb0.out]
  go_wp2
  go_ret
  exact ⟨rfl, r1, r2⟩
set_option maxHeartbeats 4000000 in
set_option maxRecDepth 100000 in
theorem add_old (p : Nat) (F : Nat → Prop) (vl : Value) (l : List Int) (x : Int) (w : World) (hb : w.heap[p]? = some (.cells #[vl, .slice none 0 0, .int .i64 (l.length : Int)] 83 (0, 0))) (ho : OwF w F vl l) (hs : Srt l) (hl : l.length ≤ 16) (hx : okN x) (hm : x ∈ l) :
    Calls Tryz.prog 29 #[.pointer (some ⟨p, 0, none⟩), .int .i64 x] w fun e w' => e = .returned (.bool false) ∧ Below w.heap.size w w' := by
  obtain ⟨x0, x1⟩ := hx
  have c0 : w.cell? ⟨p, 0, none⟩ = some vl := blk_cell hb 0
  have Hb := Aside0.mk hb
  have Ho := Aside0.mk ho
  have Hs := Aside0.mk hs
  have Hl := Aside0.mk hl
  have Hm := Aside0.mk (decide_eq_true hm)
  obtain ⟨i, hi⟩ : ∃ i, below l x = i := ⟨_, rfl⟩
  have Hi := Aside0.mk hi
  clear hb ho hs hl hm hi
  go_enter Tryz.func29, Tryz.ntmps29
  go_wp2_with fail
  refine (many_list p _ _ w Hb.out).mono ?_
  rintro e w' ⟨rfl, rfl⟩
  go_wp2_with fail
  refine (bs_any vl l x w Ho.out.toV Hs.out (by have := Hl.out; omega)).mono ?_
  rintro e w1 ⟨rfl, r1⟩
  rw [Hm.out, Hi.out]
  go_wp2
  go_ret
  exact ⟨rfl, r1⟩
set_option maxHeartbeats 4000000 in
set_option maxRecDepth 100000 in
theorem add_full (p : Nat) (F : Nat → Prop) (vl : Value) (l : List Int) (x : Int) (w : World) (hb : w.heap[p]? = some (.cells #[vl, .slice none 0 0, .int .i64 (l.length : Int)] 83 (0, 0))) (hp : F p) (ho : OwF w F vl l) (hs : Srt l) (hok : ∀ y ∈ l, okN y) (hl : l.length = 16) (hx : okN x) (hm : x ∉ l) :
    Calls Tryz.prog 29 #[.pointer (some ⟨p, 0, none⟩), .int .i64 x] w fun e w' => e = .returned (.bool true) ∧ RowsL w' (ext F w w') p (ins l x) ∧ Chg F w w' := by
  obtain ⟨x0, x1⟩ := hx
  have c0 : w.cell? ⟨p, 0, none⟩ = some vl := blk_cell hb 0
  have Hb := Aside0.mk hb
  have Ho := Aside0.mk ho
  have Hs := Aside0.mk (And.intro hs hok)
  have Hl := Aside0.mk hl
  have Hm := Aside0.mk (decide_eq_false hm)
  have Hx := Aside0.mk (And.intro x0 x1)
  have Hp := Aside0.mk hp
  obtain ⟨A, c, rfl, hc, hr⟩ := ho.toV
  have l1 : decide ((l.length : Int) = 16) = true := decide_eq_true (by omega)
  have l2 : ((l.length : Int) == 16) = true := by rw [beq_iff_eq]; omega
  obtain ⟨i, hi⟩ : ∃ i, below l x = i := ⟨_, rfl⟩
  have Hi := Aside0.mk hi
  clear hb ho hs hl hm hi hc hr hp hok
  go_enter Tryz.func29, Tryz.ntmps29
  go_wp2_with fail
  refine (many_list p _ _ w Hb.out).mono ?_
  rintro e w' ⟨rfl, rfl⟩
  go_wp2_with fail
  refine (bs_any _ l x w Ho.out.toV Hs.out.1 (by have := Hl.out; omega)).mono ?_
  rintro e w1 ⟨rfl, r1⟩
  rw [Hm.out, Hi.out]
  have hb1 := Ow.blk_below Hb.out r1
  have c1 : w1.cell? ⟨p, 0, none⟩ = some (.slice A l.length c) := blk_cell hb1 0
  have Hb1 := Aside0.mk hb1
  have Hr1 := Aside0.mk r1
  have Ho1 := Aside0.mk (Ho.out.below r1)
  clear hb1 r1 c0
  go_wp2_with fail
  refine (spread_any p F _ l _ w1 Hb1.out Hp.out Ho1.out Hs.out.1 Hs.out.2 (by rw [Hl.out]; decide)).mono ?_
  rintro e w2 ⟨rfl, r2, r3⟩
  have HR2 := Aside0.mk r2
  have HC2 := Aside0.mk r3
  clear r2 r3
  go_wp2_with fail
  refine (markL_any p _ l x w2 HR2.out Hx.out (by rw [Hl.out]; decide)).mono ?_
  rintro e w3 ⟨rfl, r4, r5⟩
  rw [Hm.out]
  go_wp2
  go_ret
  have s1 := Hr1.out.size
  have s2 := HC2.out.size
  have s3 := r5.size
  refine ⟨rfl, r4.bound.mono (fun k hk => ?_), ?_⟩
  · obtain ⟨(rfl | h) | h, h2⟩ := hk
    · exact .inl Hp.out
    · exact .inr ⟨by omega, h2⟩
    · exact .inr ⟨by omega, h.2⟩
  · exact ((Chg.of_below Hr1.out F).then_ HC2.out (fun k hk => .inl (hk ▸ Hp.out))).then_ r5 (fun k hk => hk.elim (fun e => .inl (e ▸ Hp.out)) (fun h => .inr (by omega)))
theorem added_list {w w1 w2 : World} {F : Nat → Prop} {p : Nat} {v0 v' : Value} {l : List Int} {x : Int} (hb : w2.heap[p]? = some (.cells #[v0, .slice none 0 0, .int .i64 (l.length : Int)] 83 (0, 0))) (h1 : Below w.heap.size w w1)
    (hO : OwF w2 (ext (fun k => F k ∧ k ≠ p ∧ k < w.heap.size) (w1.alloc (.cells #[.int .i64 x] 3)) w2) v' (ins l x)) (hC : Chg (fun k => F k ∧ k ≠ p ∧ k < w.heap.size) (w1.alloc (.cells #[.int .i64 x] 3)) w2)
    (hp : F p) (hs : Srt l) (hok : ∀ y ∈ l, okN y) (hl : l.length < 16) (hx : okN x) (hm : x ∉ l) :
    SetF ((w2.setCell ⟨p, 0, none⟩ v').setCell ⟨p, 2, none⟩ (.int .i64 ((l.length : Int) + 1))) (ext F w ((w2.setCell ⟨p, 0, none⟩ v').setCell ⟨p, 2, none⟩ (.int .i64 ((l.length : Int) + 1)))) p (ins l x) ∧ Chg F w ((w2.setCell ⟨p, 0, none⟩ v').setCell ⟨p, 2, none⟩ (.int .i64 ((l.length : Int) + 1))) := by
  have hb3 := blk_set hb 0 v'
  have hb4 := blk_set hb3 2 (.int .i64 ((l.length : Int) + 1))
  have hO4 := (hO.far hb (by decide) 0 v').far hb3 (by decide) 2 (.int .i64 ((l.length : Int) + 1))
  have s0 := h1.size
  have s1 := hC.size
  have s2 : (w1.alloc (.cells #[.int .i64 x] 3)).heap.size = w1.heap.size + 1 := by simp
  have s3 : ((w2.setCell ⟨p, 0, none⟩ v').setCell ⟨p, 2, none⟩ (.int .i64 ((l.length : Int) + 1))).heap.size = w2.heap.size := by simp [World.setCell]
  have hlen : ((ins l x).length : Int) = (l.length : Int) + 1 := by rw [ins_len, if_neg hm]; simp
  have hC2 : Chg F w w2 := (Chg.of_below h1 F).andBelow (below_alloc (Below.refl _ _) _) |>.then_ hC (fun k hk => .inl hk.1)
  refine ⟨⟨v', .slice none 0 0, ?_, .inl hp, srt_ins hs x, ?_, .inl ⟨rfl, hO4.mono (fun k hk => ?_), by rw [ins_len, if_neg hm]; omega⟩⟩, ?_⟩
  · rw [hlen]; simpa using hb4
  · intro y hy
    rcases mem_ins.1 hy with rfl | hy
    · exact hx
    · exact hok y hy
  · rcases hk with hk | hk
    · exact .inl hk.1
    · exact .inr ⟨by omega, by omega⟩
  · exact (hC2.then_ (Chg.setCell _ (p := ⟨p, 0, none⟩) (F := F) hp _) (fun k h => .inl h)).then_ (Chg.setCell _ (p := ⟨p, 2, none⟩) (F := F) hp _) (fun k h => .inl h)
set_option maxHeartbeats 4000000 in
set_option maxRecDepth 100000 in
theorem add_list (p : Nat) (F : Nat → Prop) (vl : Value) (l : List Int) (x : Int) (w : World) (hb : w.heap[p]? = some (.cells #[vl, .slice none 0 0, .int .i64 (l.length : Int)] 83 (0, 0))) (hp : F p) (ho : OwF w F vl l) (hs : Srt l) (hok : ∀ y ∈ l, okN y) (hl : l.length < 16) (hx : okN x) (hm : x ∉ l) :
    Calls Tryz.prog 29 #[.pointer (some ⟨p, 0, none⟩), .int .i64 x] w fun e w' => e = .returned (.bool true) ∧ SetF w' (ext F w w') p (ins l x) ∧ Chg F w w' := by
  obtain ⟨x0, x1⟩ := hx
  have c0 : w.cell? ⟨p, 0, none⟩ = some vl := blk_cell hb 0
  have Hb := Aside0.mk hb
  have Ho := Aside0.mk ho
  have Hs := Aside0.mk (And.intro hs hok)
  have Hl := Aside0.mk hl
  have Hm := Aside0.mk (decide_eq_false hm)
  have Hx := Aside0.mk (And.intro x0 x1)
  have Hp := Aside0.mk hp
  have Ht := Aside0.mk (OwF.tight ho hb (by decide))
  obtain ⟨A, c, rfl, hc, hr⟩ := ho.toV
  have l1 : decide ((l.length : Int) = 16) = false := decide_eq_false (by omega)
  have l2 : ((l.length : Int) == 16) = false := by rw [beq_eq_false_iff_ne]; omega
  have l3 : (l.length : Int) < 16 := by omega
  have l4 : 0 ≤ (l.length : Int) := by omega
  obtain ⟨i, hi⟩ : ∃ i, below l x = i := ⟨_, rfl⟩
  have Hi := Aside0.mk hi
  clear hb ho hs hl hm hi hc hr hp hok
  go_enter Tryz.func29, Tryz.ntmps29
  go_wp2_with fail
  refine (many_list p _ _ w Hb.out).mono ?_
  rintro e w' ⟨rfl, rfl⟩
  go_wp2_with fail
  refine (bs_any _ l x w Ho.out.toV Hs.out.1 (by have := Hl.out; omega)).mono ?_
  rintro e w1 ⟨rfl, r1⟩
  rw [Hm.out, Hi.out]
  have hb1 := Ow.blk_below Hb.out r1
  have c1 : w1.cell? ⟨p, 0, none⟩ = some (.slice A l.length c) := blk_cell hb1 0
  have Hb1 := Aside0.mk hb1
  have Hr1 := Aside0.mk r1
  have Ho1 := Aside0.mk ((Ht.out.below r1).below (below_alloc (Below.refl _ _) (.cells #[.int .i64 x] 3)))
  clear hb1 r1 c0
  go_wp2_with fail
  have hI := insert_own _ l x w1.heap.size _ _ Ho1.out (of_decide_eq_false Hm.out) (heap_alloc_new _ _) (fun h => by have := h.2.2; have := Hr1.out.size; omega) (by have := Hl.out; omega)
  rw [Hi.out] at hI
  (with_reducible refine hI.mono ?_)
  rintro e w2 ⟨v', rfl, r2, r3⟩
  obtain ⟨A2, c2, hv2, -, -⟩ := r2.toV
  obtain ⟨m2, hm2⟩ : ∃ m, (ins l x).length = m := ⟨_, rfl⟩
  rw [hm2] at hv2
  subst hv2
  clear hm2
  have hb2 := r3.blk (Ow.blk_below Hb1.out (below_alloc (Below.refl _ _) (.cells #[.int .i64 x] 3))) (fun h => h.2.1 rfl)
  have d0 : w2.cell? ⟨p, 0, none⟩ = some (.slice A l.length c) := blk_cell hb2 0
  have d2 : w2.cell? ⟨p, 2, none⟩ = some (.int .i64 (l.length : Int)) := blk_cell hb2 2
  have z0 := blk_frozen hb2 0
  have z2 := blk_frozen hb2 2
  have Hb2 := Aside0.mk hb2
  have HI := Aside0.mk (And.intro r2 r3)
  clear hb2 r2 r3 hI
  go_wp2_with fail
  go_ret
  exact ⟨rfl, added_list Hb2.out Hr1.out HI.out.1 HI.out.2 Hp.out Hs.out.1 Hs.out.2 Hl.out Hx.out (of_decide_eq_false Hm.out)⟩
/-- a number more -/
def addL (l : List Int) (x : Int) : List Int := if 0 ≤ x ∧ x < 1048576 then ins l x else l
def addB (l : List Int) (x : Int) : Bool := decide (0 ≤ x ∧ x < 1048576) && !decide (x ∈ l)
/-- Add -/
theorem add_any (p : Nat) (F : Nat → Prop) (l : List Int) (x : Int) (w : World) (h : SetF w F p l) :
    Calls Tryz.prog 29 #[.pointer (some ⟨p, 0, none⟩), .int .i64 x] w fun e w' => e = .returned (.bool (addB l x)) ∧ SetF w' (ext F w w') p (addL l x) ∧ Chg F w w' := by
  by_cases hx : okN x
  · have e1 : addL l x = ins l x := if_pos hx
    have e2 : addB l x = !decide (x ∈ l) := by unfold addB; rw [decide_eq_true (show 0 ≤ x ∧ x < 1048576 from hx), Bool.true_and]
    rw [e1, e2]
    have hl := h.len
    have hs := h.srt
    have hok := h.ok
    have hok2 : ∀ y ∈ ins l x, okN y := fun y hy => by
      rcases mem_ins.1 hy with rfl | hy
      · exact hx
      · exact hok y hy
    have h0 := h
    obtain ⟨vl, vr, h1, h2, h3, h4, h5⟩ := h
    rcases h5 with ⟨rfl, b, c⟩ | ⟨rfl, ad, cap, ws, rfl, c, d1, d2, d3⟩
    · by_cases hm : x ∈ l
      · refine (add_old p F vl l x w h1 b h3 c hx hm).mono ?_
        rintro e w' ⟨rfl, r⟩
        rw [ins_old hm]
        exact ⟨by simp [hm], (h0.below r).mono (fun k hk => .inl hk), Chg.of_below r F⟩
      · rcases Nat.lt_or_ge l.length 16 with h16 | h16
        · refine (add_list p F vl l x w h1 h2 b h3 h4 h16 hx hm).mono ?_
          rintro e w' ⟨rfl, r1, r2⟩
          exact ⟨by simp [hm], r1, r2⟩
        · refine (add_full p F vl l x w h1 h2 b h3 h4 (by omega) hx hm).mono ?_
          rintro e w' ⟨rfl, r1, r2⟩
          exact ⟨by simp [hm], r1.toSet (srt_ins h3 x) hok2, r2⟩
    · obtain ⟨g, rfl⟩ := Kd.R_head c.out
      refine (add_rows p F l x w ⟨ws, ⟨g, cap, h1, h2, c⟩, d1, d2, d3⟩ hx hl).mono ?_
      rintro e w' ⟨rfl, r1, r2⟩
      exact ⟨rfl, r1.toSet (srt_ins h3 x) hok2, r2⟩
  · have e1 : addL l x = l := if_neg hx
    have e2 : addB l x = false := by unfold addB; rw [decide_eq_false (show ¬ (0 ≤ x ∧ x < 1048576) from hx), Bool.false_and]
    rw [e1, e2]
    refine (add_out p x w hx).mono ?_
    rintro e w' ⟨rfl, rfl⟩
    exact ⟨rfl, h.mono (fun k hk => .inl hk), Chg.refl _ _⟩
end Go.Proofs.YtfgonclaiphoeaaGreatDoor.Se
