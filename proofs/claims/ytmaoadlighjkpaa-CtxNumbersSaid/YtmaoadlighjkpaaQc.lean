/- The queue: New, Has, Next. -/
import Derived.Test.YtmaoadlighjkpaaQb
namespace Go.Proofs.Ytmaoadlighjkpaa.Qu
open Go.RowKit Go.Proofs.YtmaoadlighjkpaaW.PrintWords Go.Proofs.YtmaoadlighjkpaaW.PrintLast Go.Proofs.YtmaoadlighjkpaaW.PrintMore
open Go.Proofs.Ytmaoadlighjkpaa.Base Go.Proofs.Ytmaoadlighjkpaa.Map Go.Proofs.Ytmaoadlighjkpaa.Ca Go.Maps
set_option linter.unusedVariables false

/-- The queue in block g holds l; all its blocks are F's. -/
def QAt (w : World) (F : Nat → Prop) (g : Nat) (l : List Int) : Prop :=
  ∃ (FL : Nat → Prop) (mb : Nat) (f : Lit → Option Value), LineAt w FL g (.map (some mb)) l ∧ MapP Try.prog 3 w mb f l.length ∧ (∀ k, FL k → F k) ∧ F mb ∧ ¬ FL mb ∧
    (∀ x : Int, (Lit.int .i64 x).wf = true → f (.int .i64 x) = if x ∈ l then some (.bool true) else none) ∧ l.Nodup ∧ ∀ x ∈ l, 0 ≤ x ∧ x < 1048576

theorem QAt.below {w w1 : World} {F : Nat → Prop} {g : Nat} {l : List Int} (h : QAt w F g l) (hb : Below w.heap.size w w1) : QAt w1 F g l := by
  obtain ⟨FL, mb, f, h1, h2, h3⟩ := h
  exact ⟨FL, mb, f, h1.below hb, h2.below hb, h3⟩
theorem QAt.mono {w : World} {F F' : Nat → Prop} {g : Nat} {l : List Int} (h : QAt w F g l) (hF : ∀ k, F k → F' k) : QAt w F' g l := by
  obtain ⟨FL, mb, f, h1, h2, h3, h4, h5⟩ := h
  exact ⟨FL, mb, f, h1, h2, fun k hk => hF k (h3 k hk), hF _ h4, h5⟩
theorem nodup_le : ∀ (N : Nat) (l : List Int), l.Nodup → (∀ x ∈ l, 0 ≤ x ∧ x < (N : Int)) → l.length ≤ N
  | 0, l, _, h => by
    cases l with
    | nil => exact Nat.le_refl _
    | cons a l => have := h a List.mem_cons_self; omega
  | N + 1, l, hn, h => by
    have ih := nodup_le N (l.erase (N : Int)) (hn.erase _) (fun x hx => by
      have h1 := List.mem_of_mem_erase hx
      have h2 := (hn.mem_erase_iff.1 hx).1
      have h3 := h x h1
      omega)
    have := List.length_erase (a := (N : Int)) (l := l)
    split at this <;> omega
theorem QAt.len_le {w : World} {F : Nat → Prop} {g : Nat} {l : List Int} (h : QAt w F g l) : l.length ≤ 1048576 := by
  obtain ⟨FL, mb, f, h1, h2, h3, h4, h5, h6, h7, h8⟩ := h
  exact nodup_le 1048576 l h7 h8

theorem law3 : Keyed Try.prog 3 := int_keyed Try.underlying3
theorem zero4 (w : World) : (zeroValue 4).run Try.prog w = .ok (.bool false) w := by kernel_rfl

/-- the world behind queue.New -/
def newW (w : World) : World := (w.alloc (.map #[] 0)).alloc (.cells #[.slice none 0 0, .int .i64 0, .map (some w.heap.size)] 45)
theorem newW_size (w : World) : (newW w).heap.size = w.heap.size + 2 := by simp [newW]

set_option maxHeartbeats 1000000 in
set_option maxRecDepth 100000 in
theorem new_any (w : World) : Calls Try.prog 30 #[] w fun e w' => e = .returned (.pointer (some ⟨w.heap.size + 1, 0, none⟩)) ∧ QAt w' (fun k => w.heap.size ≤ k ∧ k < w'.heap.size) (w.heap.size + 1) [] ∧ Below w.heap.size w w' := by
  have hmm := @run_makeMap Try.prog
  go_enter Try.func30, Try.ntmps30
  go_wp2
  go_ret
  refine ⟨rfl, ⟨fun k => k = w.heap.size + 1, w.heap.size, fun _ => none, ⟨.slice none 0 0, [], 0, by simpa using heap_alloc_new (w.alloc (.map #[] 0)) _, ⟨Kd.R_nil _ _ _ _ _⟩, by simp, by simp, .inl (by omega), rfl⟩,
    (MapP.made w Try.prog 3).below (below_alloc (Below.refl _ _) _), ?_, ?_, by omega, by simp, by simp, by simp⟩, below_alloc (below_alloc (Below.refl _ _) _) _⟩
  · rintro k rfl; simp; try omega
  · simp; try omega

set_option maxHeartbeats 1000000 in
set_option maxRecDepth 100000 in
theorem has_any (g : Nat) (F : Nat → Prop) (l : List Int) (x : Int) (w : World) (h : QAt w F g l) (hx : (Lit.int .i64 x).wf = true) :
    Calls Try.prog 36 #[.pointer (some ⟨g, 0, none⟩), .int .i64 x] w fun e w' => e = .returned (.bool (decide (x ∈ l))) ∧ w = w' := by
  obtain ⟨FL, mb, f, ⟨v, xs, t, hb, _⟩, hM, _, _, _, hf, _⟩ := h
  have c2 : w.cell? ⟨g, 2, none⟩ = some (.map (some mb)) := blk_cell hb 2
  have hz := zero4 w
  have hkey := keyOf_int_mk Try.underlying3 hx
  have hr : (f (.int .i64 x)).getD (.bool false) = .bool (decide (x ∈ l)) := by rw [hf x hx]; by_cases h1 : x ∈ l <;> simp [h1]
  have HR := Aside0.mk hr
  generalize decide (x ∈ l) = r at *
  clear hb hf hr hx
  have Hk := Aside0.mk hkey
  clear hkey
  go_enter Try.func36, Try.ntmps36
  go_wp2_with (first | (at_lookup; refine wp_look rfl _ _ 43 3 4 rfl hM law3 Try.underlying43 hz rfl rfl Hk.out HR.out ?_))
  go_ret
  exact ⟨rfl, rfl⟩

set_option maxHeartbeats 1000000 in
set_option maxRecDepth 100000 in
theorem next_none (g : Nat) (F : Nat → Prop) (w : World) (h : QAt w F g []) :
    Calls Try.prog 32 #[.pointer (some ⟨g, 0, none⟩)] w fun e w' => e = .returned (.tuple #[.int .i64 0, .bool false]) ∧ Below w.heap.size w w' := by
  obtain ⟨FL, mb, f, hL, _⟩ := h
  have hW := hL.toW
  clear hL
  go_enter Try.func32, Try.ntmps32
  go_wp2_with (first | (go_at_call 33; (with_reducible refine (len_any g FL _ [] _ hW).mono ?_); rintro e w1 ⟨rfl, H1⟩))
  go_ret2
  exact ⟨rfl, H1⟩

set_option maxHeartbeats 1000000 in
set_option maxRecDepth 100000 in
theorem next_some (g : Nat) (F : Nat → Prop) (x : Int) (l : List Int) (w : World) (h : QAt w F g (x :: l)) :
    Calls Try.prog 32 #[.pointer (some ⟨g, 0, none⟩)] w fun e w' => e = .returned (.tuple #[.int .i64 x, .bool true]) ∧ QAt w' (ext F w w') g l ∧ Chg F w w' := by
  have hlen := h.len_le
  rw [List.length_cons] at hlen
  obtain ⟨FL, mb, f, hL, hM, hF1, hF2, hF3, hf, hn, hr⟩ := h
  have hx0 := hr x List.mem_cons_self
  have hwf : (Lit.int .i64 x).wf = true := WalkArith.wf_i64 (by omega)
  have Hkey := Aside0.mk (keyOf_int_mk Try.underlying3 hwf)
  have Hlen := Aside0.mk (show l.length ≤ 1048576 by omega)
  have g0 : (((x :: l).length : Int) == 0) = false := beq_eq_false_iff_ne.mpr (by rw [List.length_cons]; omega)
  clear hlen hx0 hwf
  have Hf := Aside0.mk hf
  have Hr := Aside0.mk hr
  clear hf hr
  go_enter Try.func32, Try.ntmps32
  go_wp2_with fail
  refine (len_any g FL _ (x :: l) _ hL.toW).mono ?_
  rintro e w1 ⟨rfl, H1⟩
  have hL1 := hL.below H1
  have hM1 := hM.below H1
  clear hL hM
  go_wp2_with fail
  refine (take_any g FL _ x l _ hL1 Hlen.out).mono ?_
  rintro e w2 ⟨rfl, hL2, hC⟩
  have hM2 := hM1.chg hC hF3
  have hml := hM1.lt
  have hL2' := hL2
  obtain ⟨v, xs, t, hb, _⟩ := hL2
  have c2 : w2.cell? ⟨g, 2, none⟩ = some (.map (some mb)) := blk_cell hb 2
  clear hb hL1 hM1 g0
  go_wp2_with (first | (at_delete; refine wp_drop rfl _ _ 43 3 4 rfl hM2 law3 Try.underlying43 rfl rfl Hkey.out ?_; intro w3 n3 hM3 hn3 hg3; have HM3 := Aside0.mk hM3; have Hn3 := Aside0.mk hn3; have Hg3 := Aside0.mk hg3; clear hM3 hn3 hg3))
  go_ret2
  have hM3 := HM3.out
  have hg3 := Hg3.out
  have hC3 : Chg (fun k => k = mb) w2 w3 := Chg.of_grown hg3 (fun k hk => by cases hk; rfl)
  have hnot : ¬ ext FL w1 w2 mb := by rintro (h | h); exact hF3 h; omega
  have hL3 : LineAt w3 (ext FL w1 w2) g (.map (some mb)) l := by
    obtain ⟨v, xs, t, hb, ho, h3, h4, h5, h6⟩ := hL2'
    refine ⟨v, xs, t, hC3.blk hb (fun e => hnot (e ▸ h6)), ⟨Kd.R_step ho.out (fun k hk hlt => hC3.block k hlt (fun e => hnot (e ▸ hk)))⟩, h3, h4, h5, h6⟩
  have hCF : Chg F w w3 := ((Chg.of_below H1 F).then_ (hC.mono (F' := F) (fun k _ hk => hF1 k hk)) (fun k hk => .inl hk)).then_ hC3 (fun k hk => .inl (hk ▸ hF2))
  have hfx := Hf.out x (WalkArith.wf_i64 (by have := Hr.out x List.mem_cons_self; omega))
  rw [if_pos List.mem_cons_self] at hfx
  have hn3 := Hn3.out
  rw [hfx] at hn3
  simp only [Option.isSome_some, if_true, List.length_cons] at hn3
  obtain rfl : n3 = l.length := by omega
  have hnd := List.nodup_cons.1 hn
  refine ⟨rfl, ⟨ext FL w1 w2, mb, _, hL3, hM3, ?_, .inl hF2, hnot, ?_, hnd.2, fun y hy => Hr.out y (List.mem_cons_of_mem _ hy)⟩, hCF⟩
  · rintro k (hk | hk)
    · exact .inl (hF1 k hk)
    · exact .inr ⟨Nat.le_trans H1.size hk.1, Nat.lt_of_lt_of_le hk.2 hC3.size⟩
  · intro y hy
    by_cases hyx : y = x
    · subst hyx; rw [upd_same, if_neg hnd.1]
    · rw [upd_other _ (fun e => hyx (by injection e)), Hf.out y hy]
      by_cases h1 : y ∈ l
      · rw [if_pos (List.mem_cons_of_mem _ h1), if_pos h1]
      · rw [if_neg (fun h2 => (List.mem_cons.1 h2).elim hyx h1), if_neg h1]
end Go.Proofs.Ytmaoadlighjkpaa.Qu
