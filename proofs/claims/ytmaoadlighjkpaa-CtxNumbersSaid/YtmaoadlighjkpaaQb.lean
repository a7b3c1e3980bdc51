/- The queue's line: take. -/
import Derived.Test.YtmaoadlighjkpaaQa
namespace Go.Proofs.Ytmaoadlighjkpaa.Qu
open Go.RowKit Go.Proofs.YtmaoadlighjkpaaW.PrintWords Go.Proofs.YtmaoadlighjkpaaW.PrintLast Go.Proofs.YtmaoadlighjkpaaW.PrintMore
open Go.Proofs.Ytmaoadlighjkpaa.Base Go.Proofs.Ytmaoadlighjkpaa.Map Go.Proofs.Ytmaoadlighjkpaa.Ca

set_option maxHeartbeats 2000000 in
set_option maxRecDepth 100000 in
theorem take_any (g : Nat) (F : Nat → Prop) (m : Value) (x : Int) (l : List Int) (w : World) (h : LineAt w F g m (x :: l)) (hL : l.length ≤ 1048576) :
    Calls Try.prog 76 #[.pointer (some ⟨g, 0, none⟩)] w fun e w' => e = .returned (.int .i64 x) ∧ LineAt w' (ext F w w') g m l ∧ Chg F w w' := by
  obtain ⟨v, xs, t, hb, ho, ht, hl, hi, hF⟩ := h
  have hlen := line_len ht hl hi
  rw [List.length_cons] at hlen
  have htl : t < xs.length := by omega
  have hdx : xs.drop (t + 1) = l := by
    rw [List.drop_eq_getElem_cons htl] at hl
    exact (List.cons.inj hl).2.symm
  have hrd : rd xs t = x := by
    rw [List.drop_eq_getElem_cons htl] at hl
    have := (List.cons.inj hl).1
    simp [rd, htl, this]
  obtain ⟨A, c, rfl, hc, hr⟩ := ho.toV
  obtain ⟨ad, hA, hx⟩ := hr.at_ t (by omega) (by omega)
  rw [Int.toNat_natCast, hrd] at hx
  subst hA
  have c0 : w.cell? ⟨g, 0, none⟩ = some (.slice (some ad) xs.length c) := blk_cell hb 0
  have c1 : w.cell? ⟨g, 1, none⟩ = some (.int .i64 (t : Int)) := blk_cell hb 1
  have z1 : w.frozen? ⟨g, 1, none⟩ = false := blk_frozen hb 1
  have b0 : (0 : Int) ≤ (t : Int) := by omega
  have b1 : (t : Int) < (xs.length : Int) := by omega
  have b2 : (xs.length : Int) ≤ 2097186 := by omega
  have Hl := Aside0.mk hl
  have Hdx := Aside0.mk hdx
  have Hlen := Aside0.mk hlen
  clear hl hdx hlen hrd hL
  have K : ∀ W, Below w.heap.size w W → ∃ W1, W.setCell ⟨g, 1, none⟩ (.int .i64 ((t : Int) + 1)) = W1 ∧ W1.heap[g]? = some (.cells #[.slice (some ad) xs.length c, .int .i64 ((t : Int) + 1), m] 45 (0, 0)) ∧ OwF W1 F (.slice (some ad) xs.length c) xs ∧ Chg F w W1 := by
    intro W hB
    have hbW := (hB.block g (blk_lt hb)).trans hb
    exact ⟨_, rfl, blk_set hbW 1 _, (ho.below hB).far hbW (by decide) 1 _, (Chg.of_below hB F).then_ (Chg.setCell W (p := ⟨g, 1, none⟩) hF _) (fun k hk => .inl hk)⟩
  have w2' : IntKind.i64.wrap (2 * ((t : Int) + 1)) = 2 * ((t : Int) + 1) := IntWalk.i64_in _ (by omega)
  clear ho hr
  have Hb := Aside0.mk hb
  clear hb
  by_cases hbig : 32 < t + 1 ∧ xs.length < 2 * (t + 1)
  · obtain ⟨q1, q2⟩ := hbig
    go_enter Try.func76, Try.ntmps76
    go_wp2_with fail
    go_quiet (fail)
    go_wp2_with fail
    obtain ⟨W1, hW1, hb1, ho1, hC1⟩ := K _ (pw_below_drewN (Below.refl _ _) nq)
    rw [hW1]
    clear hW1 K c0 c1 z1 hx
    have c0 : W1.cell? ⟨g, 0, none⟩ = some (.slice (some ad) xs.length c) := blk_cell hb1 0
    have c1 : W1.cell? ⟨g, 1, none⟩ = some (.int .i64 ((t : Int) + 1)) := blk_cell hb1 1
    have g1 : decide (32 < (t : Int) + 1) = true := decide_eq_true (by omega)
    have g2 : decide ((xs.length : Int) < 2 * ((t : Int) + 1)) = true := decide_eq_true (by omega)
    go_quiet (fail)
    have hW2 : ∀ W, Below W1.heap.size W1 W → LineW W F g m l ∧ Chg F w W := fun W hB =>
      ⟨⟨_, xs, t + 1, (hB.block g (blk_lt hb1)).trans (by rw [Int.natCast_add]; exact hb1), ho1.below hB, by omega, Hdx.out.symm⟩, hC1.andBelow hB⟩
    obtain ⟨hLine, hC2⟩ := hW2 _ (pw_below_drewN (Below.refl _ _) nq)
    clear hW2 c0 c1
    have hb2 : (W1.drewN nq).heap[g]? = _ := hb1
    clear hb1 ho1 hC1
    go_wp2_with fail
    refine (list_any g F m l _ hLine (by have := Hlen.out; omega)).mono ?_
    rintro e w2 ⟨v2, rfl, H1, H2⟩
    have hb3 := (H2.block g (blk_lt hb2)).trans hb2
    have d0 : w2.cell? ⟨g, 0, none⟩ = some (.slice (some ad) xs.length c) := blk_cell hb3 0
    have d1 : w2.cell? ⟨g, 1, none⟩ = some (.int .i64 ((t : Int) + 1)) := blk_cell hb3 1
    have e0 : w2.frozen? ⟨g, 0, none⟩ = false := blk_frozen hb3 0
    have e1 : w2.frozen? ⟨g, 1, none⟩ = false := blk_frozen hb3 1
    have hC3 := hC2.andBelow H2
    obtain ⟨A2, c2, rfl, hc2, hr2⟩ := H1.rd
    go_wp2
    go_ret
    have hF3 : Chg F w2 ((w2.setCell ⟨g, 0, none⟩ (.slice A2 l.length c2)).setCell ⟨g, 1, none⟩ (.int .i64 0)) := (Chg.setCell w2 (p := ⟨g, 0, none⟩) hF _).then_ (Chg.setCell _ (p := ⟨g, 1, none⟩) hF _) (fun k hk => .inl hk)
    have hb4 := blk_set (blk_set hb3 0 (.slice A2 l.length c2)) 1 (.int .i64 0)
    have ho3 : OwF w2 (fun k => w.heap.size ≤ k ∧ k < w2.heap.size) (.slice A2 l.length c2) l := OwF.of_own H1 (fun k h1 h2 => ⟨Nat.le_trans hC2.size h1, h2⟩)
    have ho4 := (ho3.far hb3 (by decide) 0 (.slice A2 l.length c2)).far (blk_set hb3 0 (.slice A2 l.length c2)) (by decide) 1 (.int .i64 0)
    refine ⟨rfl, ⟨_, l, 0, hb4, ho4.mono (fun k hk => .inr ⟨hk.1, by simp [World.setCell]; exact hk.2⟩), by omega, by simp, .inl (by omega), .inl hF⟩, hC3.then_ hF3 (fun k hk => .inl hk)⟩
  · by_cases q1 : 32 < t + 1
    all_goals
      go_enter Try.func76, Try.ntmps76
      go_wp2_with fail
      go_quiet (fail)
      go_wp2_with fail
      obtain ⟨W1, hW1, hb1, ho1, hC1⟩ := K _ (pw_below_drewN (Below.refl _ _) nq)
      rw [hW1]
      clear hW1 K c0 c1 z1 hx
      have c0 : W1.cell? ⟨g, 0, none⟩ = some (.slice (some ad) xs.length c) := blk_cell hb1 0
      have c1 : W1.cell? ⟨g, 1, none⟩ = some (.int .i64 ((t : Int) + 1)) := blk_cell hb1 1
      have fin : ∀ W, Below W1.heap.size W1 W → LineAt W (ext F w W) g m l ∧ Chg F w W := fun W hB =>
        ⟨⟨_, xs, t + 1, (hB.block g (blk_lt hb1)).trans (by rw [Int.natCast_add]; exact hb1), (ho1.below hB).mono (fun k hk => .inl hk), by omega, Hdx.out.symm, by omega, .inl hF⟩, hC1.andBelow hB⟩
    · have g1 : decide (32 < (t : Int) + 1) = true := decide_eq_true (by omega)
      have g2 : decide ((xs.length : Int) < 2 * ((t : Int) + 1)) = false := decide_eq_false (by omega)
      clear hb1 ho1 hC1
      go_quiet (fail)
      go_wp2
      go_ret
      exact ⟨rfl, fin _ (pw_below_drewN (Below.refl _ _) _)⟩
    · have g1 : decide (32 < (t : Int) + 1) = false := decide_eq_false (by omega)
      clear hb1 ho1 hC1
      go_quiet (fail)
      go_wp2
      go_ret
      exact ⟨rfl, fin _ (pw_below_drewN (Below.refl _ _) _)⟩
end Go.Proofs.Ytmaoadlighjkpaa.Qu
